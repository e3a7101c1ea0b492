/- Lemmas towards plantEnters_card: no conditions of their own beyond those that each one states. -/
import Derived.Test.YtkhjenddapaejaaGreatDoorA4
import Derived.Shelf.Spec.SlicesInsertGrow
import Derived.Ground.Names2Prog
set_option linter.all false
set_option linter.unusedSimpArgs false
set_option linter.unusedVariables false
set_option linter.deprecated false
namespace Go.Proofs.YtkhjenddapaejaaGreatDoor
open Go Go.Sym
open Go.Shelf Go.Lib
def Tryz.lays21_ren:Go.Shelf.Ren:=⟨fun|21=>124|27=>165|28=>166|35=>184|39=>187|n=>n,fun|22=>22|3=>3|4=>4|0=>0|n=>n,fun|n=>n⟩
theorem Tryz.lays21:Go.Proofs.Lays2.n21 Tryz.prog Tryz.lays21_ren:={
 mixed:=by kernel_rfl
 f21:=Tryz.func124.trans (congrArg some (by kernel_rfl))
 f27:=Tryz.func165.trans (congrArg some (by kernel_rfl))
 f28:=Tryz.func166.trans (congrArg some (by kernel_rfl))
 f35:=Tryz.func184.trans (congrArg some (by kernel_rfl))
 f39:=Tryz.func187.trans (congrArg some (by kernel_rfl))
 t0:=Tryz.underlying0
 a0:=Tryz.isAgg0
 z0:=Tryz.sizeOf0
 v0:=Tryz.zeroValue0
 t3:=Tryz.underlying3
 a3:=Tryz.isAgg3
 z3:=Tryz.sizeOf3
 v3:=Tryz.zeroValue3
 t4:=Tryz.underlying4
 a4:=Tryz.isAgg4
 z4:=Tryz.sizeOf4
 v4:=Tryz.zeroValue4
 t22:=Tryz.underlying22
 a22:=Tryz.isAgg22
 z22:=Tryz.sizeOf22
 v22:=Tryz.zeroValue22
 i3:=by kernel_rfl}
structure SetW (b:Nat) (w w':World):Prop where
 size:w'.heap.size=w.heap.size
 os:w'.os=w.os
 tape:w'.tape=w.tape
 output:w'.output=w.output
 other:∀i,i≠b->w'.heap[i]?=w.heap[i]?
 here:∀cs t f,w.heap[b]?=some (.cells cs t f)->∃cs',w'.heap[b]?=some (.cells cs' t f)/\cs'.size=cs.size
theorem SetW.refl (b:Nat) (w:World):SetW b w w:=⟨rfl,rfl,rfl,rfl,fun _ _=>rfl,fun cs _ _ h=>⟨cs,h,rfl⟩⟩
theorem SetW.trans {b:Nat} {w w' w'':World} (h:SetW b w w') (h2:SetW b w' w''):SetW b w w'':=
 ⟨h2.size.trans h.size,h2.os.trans h.os,h2.tape.trans h.tape,h2.output.trans h.output,fun i hi=>(h2.other i hi).trans (h.other i hi),fun cs t f hc=>by
  obtain⟨c1,e1,e2⟩:=h.here cs t f hc
  obtain⟨c2,e3,e4⟩:=h2.here c1 t f e1
  exact⟨c2,e3,e4.trans e2⟩⟩
theorem SetW.drew (b:Nat) (w:World):SetW b w w.drew:=⟨rfl,rfl,rfl,rfl,fun _ _=>rfl,fun cs _ _ h=>⟨cs,h,rfl⟩⟩
theorem SetW.set (b o:Nat) (v:Value) (w:World):SetW b w (w.setCell ⟨b,o,none⟩ v):=by
 refine⟨?_,rfl,rfl,rfl,?_,?_⟩
 ·simp[World.setCell]
 ·intro i hi
  simp only[World.setCell,Array.getElem?_modify]
  rw[if_neg (fun h=>hi h.symm)]
 ·intro cs t f h
  refine⟨cs.setIfInBounds o v,?_,by simp⟩
  simp only[World.setCell,Array.getElem?_modify,if_true,h,Option.map_some]
  rfl
theorem SetW.cells (b:Nat):∀(vs:List Value) (o:Nat) (w:World),SetW b w (w.setCells b o vs)
 |[],_,w=> .refl b w
 |v::r,o,w=>(SetW.set b o v w).trans (SetW.cells b r (o+1) _)
theorem own_ret {w w':World} {e:Env} {hp:Hp} (hr:HRel w e (Glt 1) hp) (hz:∀b,e.z b->b<w.heap.size) {B cap t:Nat} {l:List Int} {cs:Array Value}
  (hB:w.heap.size<=B\/ObjB e B) (hlt:B<w'.heap.size) (hw:w'.heap[B]?=some (.cells cs t (0,0))) (hcs:cs.size=cap) (hcap:cap<=maxLen) (hn:l.length<=cap)
  (hval:∀j,j<l.length->cs[j]?=some (.int .i64 (l.getD j 0))) (hos:w'.os=w.os) (ht:w'.tape=w.tape) (ho:w'.output=w.output) (hsz:w.heap.size<=w'.heap.size)
  (hsame:∀b,b<w.heap.size->b≠B->w'.heap[b]?=w.heap[b]?):
  ∃e',HRel w' e' (Glt 2) [(100,some (1, .own t 1 (ints l)))]/\VR w' (UE e') e' (Glt 2) (.slO 100 1 0 l.length) (.slice (some ⟨B,0,none⟩) l.length cap)/\Ext w e (Glt 1) w' e' (Glt 2)/\e'.z=e.z/\
   (∀b,OwnB e' b->w.heap.size<=b\/OwnB e b)/\FrameE e w w':=by
 obtain⟨e',he'⟩:∃e':Env,e'=⟨fun i=>if i=100 then some ⟨1,some (B,cap),1,l.length⟩ else none,e.z,fun _=>none⟩:=⟨_,rfl⟩
 have hm:∀i ee,e' i=some ee->i=100/\ee=⟨1,some (B,cap),1,l.length⟩:=by
  intro i ee h
  subst he'
  by_cases hi:i=100
  ·subst hi;simp at h;exact⟨rfl,h.symm⟩
  ·simp[hi] at h
 have h100:e' 100=some ⟨1,some (B,cap),1,l.length⟩:=by subst he';simp
 have hzz:e'.z=e.z:=by subst he';rfl
 have hkid:∀b,e'.kid b=none:=by subst he';intro b;rfl
 have hnzB:¬e.z B:=by
  rcases hB with h|h
  ·intro h2;have:=hz B h2;omega
  ·exact hr.obj_nz h
 have hown:∀b,OwnB e' b->b=B:=by
  intro b hb
  rcases hb with ⟨id,ee,c,h1,h2⟩|⟨_,_,h,_⟩
  ·obtain⟨_,rfl⟩:=hm _ _ h1
   cases h2;rfl
  ·rw[hkid] at h;cases h
 have hownB:w.heap.size<=B\/OwnB e B:=hB.imp id .inl
 refine⟨e',⟨?_,?_,?_,?_,?_,?_,?_,?_⟩,?_,⟨hsz,?_,?_,?_,?_⟩,hzz,?_,⟨hos,ht,ho,hsz,?_⟩⟩
 ·intro id h
  cases hx:e' id with
  |none=>rfl
  |some ee=>
   obtain⟨rfl,_⟩:=hm _ _ hx
   simp[Hp.get] at h
 ·intro id g ob h
  simp only[Hp.get] at h
  by_cases hi:100=id
  ·rw[if_pos hi] at h
   cases h
   subst hi
   refine⟨_,h100,rfl,by show 1<2;omega,rfl,by rw[ints_length],by omega,?_,?_,?_⟩
   ·intro i h;simp[ints,AV.cells,I]
   ·intro i h j h';simp[ints,AV.cells,I,AV.one]
   ·refine⟨hcap,by rw[ints_length];exact hn,cs,hw,by omega,?_⟩
    intro i h j h'
    have hj:j=0:=by simp[ints,AV.cells,I] at h';omega
    subst hj
    have hi2:i<l.length:=by rwa[ints_length] at h
    have e1:(ints l)[i].cells[0]=I (l.getD i 0):=by simp[ints,AV.cells,I,hi2]
    have e2:cs.getD (i*1+0) undef= .int .i64 (l.getD i 0):=by
     rw[Array.getD_eq_getD_getElem?,show i*1+0=i by omega,hval i hi2];rfl
    rw[e1,e2]
    exact .val _ _ (.dat _ _ (.lit _ rfl))
  ·rw[if_neg hi] at h;cases h
 ·intro id id' ee ee' b c c' h1 h2 _ _
  rw[(hm _ _ h1).1,(hm _ _ h2).1]
 ·intro id ee b c h1 h2
  obtain⟨_,rfl⟩:=hm _ _ h1
  cases h2;exact hlt
 ·intro id ee b c h1 h2
  obtain⟨_,rfl⟩:=hm _ _ h1
  cases h2;rw[hzz];exact hnzB
 ·intro b B' c h;rw[hkid] at h;cases h
 ·intro b _;exact hkid b
 ·intro b B' c h;rw[hkid] at h;cases h
 ·refine .slO _ _ _ _ _ (by show 1<2;omega) rfl ?_
  intro ee h _
  obtain⟨_,rfl⟩:=hm _ _ h
  refine⟨by simp,fun _=>⟨cap,by simp,by simp,hn⟩⟩
 ·intro g hg;exact Nat.lt_of_lt_of_le hg (by omega)
 ·intro b hb hu
  refine⟨by rw[hzz];exact hu.1,fun h=>?_⟩
  have:=hown b h
  subst this
  rcases hownB with h|h
  ·omega
  ·exact hu.2 h
 ·intro b hb hu
  refine hsame b hb fun h=>?_
  subst h
  rcases hownB with h|h
  ·omega
  ·exact hu.2 h
 ·intro id ee h hg
  obtain⟨_,rfl⟩:=hm _ _ h
  exact absurd hg (by show ¬(1<1);omega)
 ·intro b h
  have:=hown b h
  subst this
  exact hownB
 ·intro b hb hu
  refine hsame b hb fun h=>?_
  subst h
  rcases hownB with h|h
  ·omega
  ·exact hu h
theorem ints_cellv {w:World} {e:Env} {G:Nat->Prop} {t:Nat} {l:List Int} {ee:EE} {b bcap:Nat} (ho:ORel w e G (.own t 1 (ints l)) ee) (hb:ee.blk=some (b,bcap)):
  bcap<=maxLen/\l.length<=bcap/\∃cs,w.heap[b]?=some (.cells cs t (0,0))/\cs.size=bcap/\∀j,j<l.length->cs[j]?=some (.int .i64 (l.getD j 0)):=by
 obtain⟨_,_,_,h4,h5,h6⟩:=ho
 rw[hb] at h6
 obtain⟨h7,h8,cs,h9,h10,h11⟩:=h6
 rw[ints_length] at h8
 refine⟨h7,h8,cs,h9,by omega,fun j hj=>?_⟩
 have hjl:j<(ints l).length:=by rwa[ints_length]
 have hc:(ints l)[j].cells=[I (l.getD j 0)]:=by simp[ints,AV.cells,I,hj]
 have:=h11 j hjl 0 (by rw[hc];simp)
 have e1:(ints l)[j].cells[0]'(by rw[hc];simp)=I (l.getD j 0):=by simp only[hc,List.getElem_cons_zero]
 rw[e1] at this
 cases this with
 |val _ _ h=>
  have e2:=h.lit_inv.1
  rw[Array.getD_eq_getD_getElem?,show j*1+0=j by omega,Array.getElem?_eq_getElem (by omega)] at e2
  rw[Array.getElem?_eq_getElem (by omega)]
  exact congrArg some e2
theorem setCells_get {w:World} {b o:Nat} {vs:List Value} {j:Nat} {v:Value} (h:∀j,j<vs.length->(w.cell? ⟨b,o+j,none⟩).isSome=true)
  (hj:(o<=j/\j<o+vs.length/\vs[j - o]?=some v)\/((j<o\/o+vs.length<=j)/\w.cell? ⟨b,j,none⟩=some v)):(w.setCells b o vs).cell? ⟨b,j,none⟩=some v:=by
 rcases hj with ⟨h1,h2,h3⟩|⟨h1,h2⟩
 ·have:=World.cell?_setCells_in b vs o w h (j - o) (by omega)
  rw[show o+(j - o)=j by omega] at this
  rw[this,<-h3,List.getElem?_eq_getElem (by omega)]
 ·rw[World.cell?_setCells_out b vs o w ⟨b,j,none⟩ (fun _ _=>h1)]
  exact h2
theorem cell_heap {w:World} {b t j:Nat} {cs:Array Value} {f:Nat×Nat} (h:w.heap[b]?=some (.cells cs t f)):w.cell? ⟨b,j,none⟩=cs[j]?:=by simp[World.cell?,h]
theorem frozen_heap {w:World} {b t j:Nat} {cs:Array Value} (h:w.heap[b]?=some (.cells cs t (0,0))):w.frozen? ⟨b,j,none⟩=false:=by simp[World.frozen?,h]
theorem ins_get {l:List Int} {x:Int} {i j:Nat} (hi:i<=l.length) (hj:j<l.length+1):(l.take i++[x]++l.drop i).getD j 0=if j<i then l.getD j 0 else if j=i then x else l.getD (j - 1) 0:=by
 have htl:(l.take i).length=i:=by rw[List.length_take];omega
 simp only[List.getD_eq_getElem?_getD,List.append_assoc]
 by_cases h1:j<i
 ·rw[if_pos h1,List.getElem?_append_left (by omega),List.getElem?_take,if_pos h1]
 ·rw[if_neg h1,List.getElem?_append_right (by omega),htl]
  by_cases h2:j=i
  ·subst h2;rw[if_pos rfl];simp
  ·rw[if_neg h2,List.getElem?_append_right (by simp;omega),List.getElem?_drop]
   simp only[List.length_singleton]
   rw[show i+(j - i - 1)=j - 1 by omega]
theorem encs_get {l:List Int} {j:Nat} {v:Value} (h:(l.map fun y=>Value.int .i64 y)[j]?=some v):j<l.length/\v= .int .i64 (l.getD j 0):=by
 obtain⟨hj,e⟩:=List.getElem?_eq_some_iff.1 h
 have hj':j<l.length:=by simpa using hj
 refine⟨hj',?_⟩
 rw[<-e];simp[hj']
theorem insert_sat (l:List Int) (x:Int) (i:Nat) (hi:i<=l.length) (hl:l.length<=1000):
  SatG Tryz.prog tab 124 [(0,some (0, .own 3 1 (ints l))),(1,some (0, .own 3 1 (ints [x])))] [.slO 0 0 0 l.length,I i, .slO 1 0 0 1]
   [(100,some (1, .own 3 1 (ints (l.take i++[x]++l.drop i))))] (.slO 100 1 0 (l.take i++[x]++l.drop i).length):=by
 refine⟨⟨Tryz.f124,Tryz.func124,by rfl,by rfl⟩,?_⟩
 intro w e vals hr hz _ hlen hargs
 have hlz:(l.take i++[x]++l.drop i).length=l.length+1:=by simp;omega
 obtain⟨v0,v1,v2,rfl⟩:∃v0 v1 v2,vals=#[v0,v1,v2]:=by
  have h3:vals.size=3:=hlen.symm
  refine⟨vals[0],vals[1],vals[2],?_⟩
  apply Array.ext
  ·simpa using h3
  ·intro j h1 h2
   have:j<3:=by omega
   rcases(by omega:j=0\/j=1\/j=2) with rfl|rfl|rfl<;>rfl
 have a0:VR w (UE e) e (Glt 1) (.slO 0 0 0 l.length) v0:=hargs 0 (by simp)
 have a1:VR w (UE e) e (Glt 1) (I i) v1:=hargs 1 (by simp)
 have a2:VR w (UE e) e (Glt 1) (.slO 1 0 0 1) v2:=hargs 2 (by simp)
 obtain rfl:v1= .int .i64 i:=a1.lit_inv.1
 obtain⟨ee,he,hg0,hn0,hok,hor⟩:=slO_val hr a0 rfl (by rw[ints_length];omega)
 obtain⟨ee2,he2,hg2,hn2,hok2,hor2⟩:=slO_val hr a2 rfl rfl
 cases hb2:ee2.blk with
 |none=>
  obtain⟨_,_,_,_,_,h6⟩:=hor2
  rw[hb2] at h6
  cases h6
 |some q2=>
 obtain⟨vb,vcap⟩:=q2
 obtain⟨hv1,hv2,vc,hv3,hv4,hv5⟩:=ints_cellv hor2 hb2
 unfold SlOK at hok2
 rw[hb2] at hok2
 obtain⟨c2,rfl,hv6,hv7⟩:=hok2
 have hxv:∀j v,[Value.int .i64 x][j]?=some v->w.cell? ⟨vb,0*ee2.k+j,none⟩=some v:=by
  intro j v h
  cases j with
  |zero=>
   cases h
   rw[Nat.zero_mul,Nat.zero_add,cell_heap hv3,hv5 0 (by simp)];rfl
  |succ j=>simp at h
 have h1v:∀v∈[Value.int .i64 x],v.oneCell'=true:=by simp[Value.oneCell']
 have hen:(l.map fun y=>Value.int .i64 y).length=l.length:=by simp
 have h1c:∀v∈(l.map fun y=>Value.int .i64 y),v.oneCell'=true:=by simp[Value.oneCell']
 have fin:∀(B cap t:Nat) (w':World) (cs:Array Value),(w.heap.size<=B\/ObjB e B)->B<w'.heap.size->w'.heap[B]?=some (.cells cs t (0,0))->t=3->cs.size=cap->cap<=maxLen->l.length+1<=cap->
   (∀j,j<l.length+1->w'.cell? ⟨B,j,none⟩=some (.int .i64 (if j<i then l.getD j 0 else if j=i then x else l.getD (j - 1) 0)))->w'.os=w.os->w'.tape=w.tape->w'.output=w.output->w.heap.size<=w'.heap.size->
   (∀b,b<w.heap.size->b≠B->w'.heap[b]?=w.heap[b]?)->
   ∃v e',Ending.returned (.slice (some ⟨B,0,none⟩) (l.length+1) cap)= .returned v/\HRel w' e' (Glt 2) [(100,some (1, .own 3 1 (ints (l.take i++[x]++l.drop i))))]/\
    VR w' (UE e') e' (Glt 2) (.slO 100 1 0 (l.take i++[x]++l.drop i).length) v/\Ext w e (Glt 1) w' e' (Glt 2)/\e'.z=e.z/\(∀b,OwnB e' b->w.heap.size<=b\/OwnB e b)/\FrameE e w w':=by
  intro B cap t w' cs h1 h2 h3 ht h4 h5 h6 h7 h8 h9 h10 h11 h12
  subst ht
  obtain⟨e',q1,q2,q3⟩:=own_ret (l:=l.take i++[x]++l.drop i) hr hz h1 h2 h3 h4 h5 (by omega) (fun j hj=>by
   have:=h7 j (by omega)
   rw[cell_heap h3] at this
   rw[this,ins_get hi (by omega)]) h8 h9 h10 h11 h12
  rw[hlz] at q2 ⊢
  exact⟨_,e',rfl,q1,q2,q3⟩
 have cal:∀Q:Ending->World->Prop,Calls Tryz.prog (Tryz.lays21_ren.f 21) #[v0, .int .i64 i, .slice (some ⟨vb,0*ee2.k,none⟩) 1 c2] w Q->Calls Tryz.prog 124 #[v0, .int .i64 i, .slice (some ⟨vb,0*ee2.k,none⟩) 1 c2] w Q:=fun Q h=>h
 have ht3:Tryz.lays21_ren.t 3=3:=rfl
 refine cal _ ?_
 cases hb:ee.blk with
 |none=>
  obtain⟨_,_,_,_,_,h6⟩:=hor
  rw[hb] at h6
  have hl0:l=[]:=by
   have:(ints l).length=0:=by rw[h6];rfl
   rw[ints_length] at this
   exact List.eq_nil_of_length_eq_zero this
  subst hl0
  unfold SlOK at hok
  rw[hb] at hok
  obtain⟨_,_,a,rfl⟩:=hok
  obtain rfl:i=0:=by simpa using hi
  refine(Any2.slices_Insert_int_end_grow Tryz.lays21 a 0 0 vb (0*ee2.k) 1 c2 [] [.int .i64 x] w (by omega) (by omega) (by omega) (by omega) rfl rfl (fun _=>rfl) (fun _ _ j v h=>by simp at h) hxv h1v).mono ?_
  rintro en w' ⟨rfl,hw'⟩
  generalize hG:grownCap w (0+1) 0 (Tryz.lays21_ren.t 3)=G at*
  have hG1:0+1<=G:=by rw[<-hG];exact grownCap_ge w _ _ _
  have hG2:G<=maxLen:=by rw[<-hG];exact grownCap_le_maxLen w _ _ _ (by unfold maxLen;omega)
  have hsz:w'.heap.size=w.heap.size+1:=by rw[hw'];exact size_new w.drew _
  refine fin w.heap.size G _ w' _ (.inl (Nat.le_refl _)) (by omega) (by rw[hw'];exact heap_new w.drew _) ht3 ?_ hG2 (by simpa using hG1) ?_ (by rw[hw'];rfl) (by rw[hw'];rfl) (by rw[hw'];rfl) (by omega) ?_
  ·simp[size_zeroCells,Value.cells];omega
  ·intro j hj
   have hj0:j=0:=by simpa using hj
   subst hj0
   rw[cell_heap (by rw[hw'];exact heap_new w.drew _)]
   simp only[List.nil_append]
   rw[Array.getElem?_append_left (by simp)];rfl
  ·intro b hb _
   rw[hw']
   exact(Grow.drew_alloc w _).same b hb
 |some q=>
 obtain⟨b,bcap⟩:=q
 obtain⟨hc1,hc2,cs,hc3,hc4,hc5⟩:=ints_cellv hor hb
 unfold SlOK at hok
 rw[hb] at hok
 obtain⟨c,rfl,hc6,hc7⟩:=hok
 obtain rfl:c=bcap:=by omega
 have hbo:ObjB e b:= .of he hb
 have hbl:b<w.heap.size:=hr.obj_lt hbo
 have hvb:vb≠b:=by
  intro h
  subst h
  have:=hr.inj 0 1 ee ee2 _ _ _ he he2 hb hb2
  omega
 have hvl:vb<w.heap.size:=hr.obj_lt (.of he2 hb2)
 have hcs:∀j v,(l.map fun y=>Value.int .i64 y)[j]?=some v->w.cell? ⟨b,0+j,none⟩=some v:=by
  intro j v h
  obtain⟨hj,rfl⟩:=encs_get h
  rw[Nat.zero_add,cell_heap hc3,hc5 j hj]
 have hsp:∀j,j<c->(w.cell? ⟨b,0+j,none⟩).isSome=true:=by
  intro j hj
  rw[Nat.zero_add,cell_heap hc3,Array.getElem?_eq_getElem (by omega)];rfl
 have hfz:∀j,w.frozen? ⟨b,j,none⟩=false:=fun j=>frozen_heap hc3
 have hmx:c<=9223372036854775807:=by unfold maxLen at hc1;omega
 by_cases hroom:l.length+1<=c
 ·by_cases hlt:i<l.length
  ·refine(Any2.slices_Insert_int_shift Tryz.lays21 b (0*ee.k) l.length c i vb (0*ee2.k) 1 c2 (l.map fun y=> .int .i64 y) [.int .i64 x] w hlt (by omega) hroom hmx hvb hen rfl (by simpa using hcs) (fun j hj=>by rw[Nat.zero_mul];exact hsp j (by omega)) (fun j hj=>hfz _) hxv h1c h1v _ _ _ _ (by simp[World.shape?,hv3];exact⟨rfl,rfl⟩) (by simp[World.shape?,hc3];exact⟨rfl,rfl⟩) (by omega) (frozen_heap hv3) (frozen_heap hv3)).mono ?_
   rintro en w' ⟨rfl,hw'⟩
   simp only[Nat.zero_mul,Nat.zero_add] at hw' ⊢
   have S1:SetW b w (w.drew.setCells b (i+1) ((l.map fun y=>Value.int .i64 y).drop i)):=(SetW.drew b w).trans (SetW.cells b _ _ _)
   have S2:SetW b w w':=by rw[hw'];exact S1.trans (SetW.cells b _ _ _)
   obtain⟨cs1,k1,k2⟩:=S1.here _ _ _ hc3
   obtain⟨cs2,k3,k4⟩:=S2.here _ _ _ hc3
   refine fin b c _ w' cs2 (.inr hbo) (by rw[S2.size];exact hbl) k3 rfl (by omega) hc1 hroom ?_ S2.os S2.tape S2.output (by rw[S2.size];exact Nat.le_refl _) (fun b' _ h=>S2.other b' h)
   intro j hj
   rw[hw']
   refine setCells_get (fun t ht=>by rw[cell_heap k1,Array.getElem?_eq_getElem (by simp only[List.length_singleton] at ht;omega)];rfl) ?_
   by_cases h2:j=i
   ·left
    subst h2
    simp
   ·right
    refine⟨by simp only[List.length_singleton];omega,?_⟩
    rw[if_neg h2]
    refine setCells_get (fun t ht=>by rw[cell_heap (w:=w.drew) hc3,Array.getElem?_eq_getElem (by rw[List.length_drop,hen] at ht;omega)];rfl) ?_
    by_cases h3:j<i
    ·right
     refine⟨.inl (by omega),?_⟩
     rw[if_pos h3,cell_heap (w:=w.drew) hc3,hc5 j (by omega)]
    ·left
     refine⟨by omega,by rw[List.length_drop,hen];omega,?_⟩
     rw[if_neg h3,List.getElem?_drop,show i+(j - (i+1))=j - 1 by omega]
     simp[show j - 1<l.length by omega]
  ·obtain rfl:i=l.length:=by omega
   refine(Any2.slices_Insert_int_end_room Tryz.lays21 b (0*ee.k) l.length c vb (0*ee2.k) 1 c2 [.int .i64 x] w (by omega) hroom hmx rfl (fun j hj=>by have:=hsp (l.length+j) (by omega);rwa[Nat.zero_mul,Nat.add_assoc]) (fun j hj=>hfz _) hxv h1v).mono ?_
   rintro en w' ⟨rfl,hw'⟩
   simp only[Nat.zero_mul,Nat.zero_add] at hw' ⊢
   have S2:SetW b w w':=by rw[hw'];exact SetW.cells b _ _ _
   obtain⟨cs2,k3,k4⟩:=S2.here _ _ _ hc3
   refine fin b c _ w' cs2 (.inr hbo) (by rw[S2.size];exact hbl) k3 rfl (by omega) hc1 hroom ?_ S2.os S2.tape S2.output (by rw[S2.size];exact Nat.le_refl _) (fun b' _ h=>S2.other b' h)
   intro j hj
   rw[hw']
   refine setCells_get (fun t ht=>by rw[cell_heap hc3,Array.getElem?_eq_getElem (by simp only[List.length_singleton] at ht;omega)];rfl) ?_
   by_cases h2:j=l.length
   ·left
    subst h2
    simp
   ·right
    refine⟨.inl (by omega),?_⟩
    rw[if_pos (by omega),cell_heap hc3,hc5 j (by omega)]
 ·by_cases hlt:i<l.length
  ·refine(Any2.slices_Insert_int_grow Tryz.lays21 b (0*ee.k) l.length c i vb (0*ee2.k) 1 c2 (l.map fun y=> .int .i64 y) [.int .i64 x] w hlt (by omega) hc2 (by omega) (by omega) hen rfl (by simpa using hcs) hxv h1c h1v).mono ?_
   rintro en w' ⟨rfl,hw'⟩
   generalize hG:grownCap w (l.length+1) c (Tryz.lays21_ren.t 3)=G at*
   have hG1:l.length+1<=G:=by rw[<-hG];exact grownCap_ge w _ _ _
   have hG2:G<=maxLen:=by rw[<-hG];exact grownCap_le_maxLen w _ _ _ (by unfold maxLen;omega)
   obtain⟨ROW,hR⟩:∃ROW,ROW=((List.take i (l.map fun y=>Value.int .i64 y)).toArray++Builtin.zeroCells (Value.int IntKind.i64 0).cells (l.length+1 - i)++Builtin.zeroCells (Value.int IntKind.i64 0).cells (G - (l.length+1))):=⟨_,rfl⟩
   rw[<-hR] at hw'
   have hRs:ROW.size=G:=by rw[hR];simp[size_zeroCells,Value.cells];omega
   have hRg:∀j,j<i->ROW[j]?=some (.int .i64 (l.getD j 0)):=by
    intro j hj
    rw[hR,Array.append_assoc,Array.getElem?_append_left (by simp;omega)]
    simp[hj,show j<l.length by omega]
   have hN:((w.alloc (.cells ROW (Tryz.lays21_ren.t 3))).drew).heap[w.heap.size]?=some (.cells ROW 3 (0,0)):=heap_new w _
   have S1:SetW w.heap.size (w.alloc (.cells ROW (Tryz.lays21_ren.t 3))).drew ((w.alloc (.cells ROW (Tryz.lays21_ren.t 3))).drew.setCells w.heap.size i [.int .i64 x]).drew:=(SetW.cells _ _ _ _).trans (SetW.drew _ _)
   have S2:SetW w.heap.size (w.alloc (.cells ROW (Tryz.lays21_ren.t 3))).drew w':=by rw[hw'];exact S1.trans (SetW.cells _ _ _ _)
   obtain⟨cs1,k1,k2⟩:=S1.here _ _ _ hN
   obtain⟨cs2,k3,k4⟩:=S2.here _ _ _ hN
   have hsz:w'.heap.size=w.heap.size+1:=by rw[S2.size];exact size_new w _
   refine fin w.heap.size G _ w' cs2 (.inl (Nat.le_refl _)) (by omega) k3 rfl (by omega) hG2 hG1 ?_ S2.os S2.tape S2.output (by omega) (fun b' hb' h=>(S2.other b' h).trans ((Grow.alloc w _).same b' hb'))
   intro j hj
   rw[hw']
   refine setCells_get (fun t ht=>by rw[cell_heap k1,Array.getElem?_eq_getElem (by rw[List.length_drop,hen] at ht;omega)];rfl) ?_
   by_cases h2:i<j
   ·left
    refine⟨by omega,by rw[List.length_drop,hen];omega,?_⟩
    rw[if_neg (by omega),if_neg (by omega),List.getElem?_drop,show i+(j - (i+1))=j - 1 by omega]
    simp[show j - 1<l.length by omega]
   ·right
    refine⟨.inl (by omega),?_⟩
    show World.cell? ((w.alloc (.cells ROW (Tryz.lays21_ren.t 3))).drew.setCells w.heap.size i [.int .i64 x]) _=_
    refine setCells_get (fun t ht=>by rw[cell_heap hN,Array.getElem?_eq_getElem (by simp only[List.length_singleton] at ht;omega)];rfl) ?_
    by_cases h3:j<i
    ·right
     refine⟨.inl h3,?_⟩
     rw[if_pos h3,cell_heap hN,hRg j h3]
    ·left
     obtain rfl:j=i:=by omega
     simp
  ·obtain rfl:i=l.length:=by omega
   refine(Any2.slices_Insert_int_end_grow Tryz.lays21 (some ⟨b,0*ee.k,none⟩) l.length c vb (0*ee2.k) 1 c2 (l.map fun y=> .int .i64 y) [.int .i64 x] w (by omega) hc2 (by omega) (by omega) hen rfl (by simp) (fun a ha j v h=>by cases ha;rw[Addr.add_lit];have:=hcs j v h;simpa using this) hxv h1v).mono ?_
   rintro en w' ⟨rfl,hw'⟩
   generalize hG:grownCap w (l.length+1) c (Tryz.lays21_ren.t 3)=G at*
   have hG1:l.length+1<=G:=by rw[<-hG];exact grownCap_ge w _ _ _
   have hG2:G<=maxLen:=by rw[<-hG];exact grownCap_le_maxLen w _ _ _ (by unfold maxLen;omega)
   have hsz:w'.heap.size=w.heap.size+1:=by rw[hw'];exact size_new w.drew _
   refine fin w.heap.size G _ w' _ (.inl (Nat.le_refl _)) (by omega) (by rw[hw'];exact heap_new w.drew _) ht3 ?_ hG2 hG1 ?_ (by rw[hw'];rfl) (by rw[hw'];rfl) (by rw[hw'];rfl) (by omega) ?_
   ·simp[size_zeroCells,Value.cells];omega
   ·intro j hj
    rw[cell_heap (by rw[hw'];exact heap_new w.drew _)]
    rw[Array.getElem?_append_left (by simp;omega)]
    by_cases h2:j=l.length
    ·subst h2;simp
    ·rw[if_pos (by omega)]
     simp[List.getElem?_append_left,show j<l.length by omega]
   ·intro b hb _
    rw[hw']
    exact(Grow.drew_alloc w _).same b hb
theorem putL_cut (l:List Int) (x:Int):putL l x=l.take (cutN l x)++[x]++l.drop (cutN l x):=by
 have h1:l.takeWhile (fun y=>decide (y<x))++l.dropWhile (fun y=>decide (y<x))=l:=List.takeWhile_append_dropWhile
 have h2:l.take (cutN l x)=l.takeWhile (fun y=>decide (y<x)):=by
  conv=>lhs;arg 2;rw[<-h1]
  unfold cutN
  rw[List.take_left]
 have h3:l.drop (cutN l x)=l.dropWhile (fun y=>decide (y<x)):=by
  conv=>lhs;arg 2;rw[<-h1]
  unfold cutN
  rw[List.drop_left]
 rw[putL,h2,h3]
theorem eput_sat (l:List Int) (x:Int) (hl:l.length<=1000) (hs:l.Pairwise (·<=·)):
  SatG Tryz.prog tab 85 [(0,some (0, .own 3 1 (ints l)))] [.slO 0 0 0 l.length,I x] [(100,some (1, .own 3 1 (ints (putL l x))))] (.slO 100 1 0 (putL l x).length):=by
 have hc:=cutN_le l x
 rw[putL_cut]
 have hi:=insert_sat l x (cutN l x) hc hl
 have hb:=search_sat l x hl hs
 generalize (decide (cutN l x<l.length)&&decide (l.getD (cutN l x) 0=x))=bb at hb
 generalize cutN l x=k at*
 generalize l.take k++[x]++l.drop k=z at*
 refine uFN Tryz.func85 Tryz.ntmps85 ?_;intro w e X hC
 refine uA ?_
 refine uR ?_;intro K hK
 refine callF (rc:= .tup [I k,B bb]) ?_ ?_ ?_ ?_ ?_ ?_;(focus (first|exact trivial|(simp only[go_sem,Nat.reduceAdd,Nat.reduceSub,Nat.reduceMul,Nat.reduceLT,Nat.reduceEqDiff,Nat.reduceBEq,Nat.reduceLeDiff,Int.reduceToNat,↓reduceIte,Int.reduceEq,Int.reduceLT,Int.reduceLE,Int.reduceAdd,Int.reduceSub,Int.reduceNeg,reduceCtorEq,]<;>trivial)));(focus (simp only[go_sem,Nat.reduceAdd,Nat.reduceSub,Nat.reduceMul,Nat.reduceLT,Nat.reduceEqDiff,Nat.reduceBEq,Nat.reduceLeDiff,Int.reduceToNat,↓reduceIte,Int.reduceEq,Int.reduceLT,Int.reduceLE,Int.reduceAdd,Int.reduceSub,Int.reduceNeg,reduceCtorEq,];exact hb));(focus (first|exact trivial|(simp only[go_sem,Nat.reduceAdd,Nat.reduceSub,Nat.reduceMul,Nat.reduceLT,Nat.reduceEqDiff,Nat.reduceBEq,Nat.reduceLeDiff,Int.reduceToNat,↓reduceIte,Int.reduceEq,Int.reduceLT,Int.reduceLE,Int.reduceAdd,Int.reduceSub,Int.reduceNeg,reduceCtorEq,]<;>trivial)));(focus (first|exact trivial|(simp only[go_sem,Nat.reduceAdd,Nat.reduceSub,Nat.reduceMul,Nat.reduceLT,Nat.reduceEqDiff,Nat.reduceBEq,Nat.reduceLeDiff,Int.reduceToNat,↓reduceIte,Int.reduceEq,Int.reduceLT,Int.reduceLE,Int.reduceAdd,Int.reduceSub,Int.reduceNeg,reduceCtorEq,]<;>trivial)));(focus (first|exact trivial|(simp only[go_sem,Nat.reduceAdd,Nat.reduceSub,Nat.reduceMul,Nat.reduceLT,Nat.reduceEqDiff,Nat.reduceBEq,Nat.reduceLeDiff,Int.reduceToNat,↓reduceIte,Int.reduceEq,Int.reduceLT,Int.reduceLE,Int.reduceAdd,Int.reduceSub,Int.reduceNeg,reduceCtorEq,]<;>trivial)));first|refine uS ?_|exact uX
 refine hK _ ?_;clear hK K
 refine uR ?_;intro K hK
 refine callE [(0,0,0,0),(1,0,116,13)] [(117,14,100,1)] false (hi) uTR uTR uTE uTE uTE uTE uTE uTE uTE uTE uTE uTE uTE uTE uTE uTE uTE ?_;refine uQS ?_
 refine hK _ ?_;clear hK K
 refine awp_ret ?_;rw[show Tryz.f85.results.toList=[.tmp 4] from rfl];(refine retG [(100,1,117,14)] uRG (by simp) (by simp) (by simp) uTG uTG uTG ?_ ?_;all_goals (first|refine uSG ?_|exact uXG|skip))
open Go.Plant
def bagOf (xs:List Nd) (p:Pl) (cs:List Int) (fs:List T3) (LV:List Int) (n:Nat):Int:=
 if isStrip (xs.getD n default).kd=true then(advL (p.slots.getD n []) (atF fs n (xs.getD n default).ln.toNat) (decide (0<=LV.getD n 0))).2 else cs.getD n 0
def st1 (xs:List Nd) (p:Pl) (cs:List Int) (fs:List T3) (LV:List Int):Nat->List (List Int)×List (List Int)×List T3
 |0=>(p.slots,p.bins,[])
 |n+1=>
  (if isStrip (xs.getD n default).kd=true then(st1 xs p cs fs LV n).1.set n (advL (p.slots.getD n []) (atF fs n (xs.getD n default).ln.toNat) (decide (0<=LV.getD n 0))).1 else(st1 xs p cs fs LV n).1,
   if isStrip (xs.getD n default).kd=true then(st1 xs p cs fs LV n).2.1 else if 0<=LV.getD n 0 then(st1 xs p cs fs LV n).2.1.set n (((st1 xs p cs fs LV n).2.1.getD n []).filter fun y=>!decide (y=cs.getD n 0)) else(st1 xs p cs fs LV n).2.1,
   if 0<=LV.getD n 0 then(st1 xs p cs fs LV n).2.2++[⟨bagOf xs p cs fs LV n,n,(xs.getD n default).ex.getD (LV.getD n 0).toNat 0⟩] else(st1 xs p cs fs LV n).2.2)
def st2 (xs:List Nd) (ms:List T3) (s:List (List Int)×List (List Int)):Nat->List (List Int)×List (List Int)
 |0=>s
 |i+1=>
  let m:=ms.getD i default
  if isStrip (xs.getD m.c.toNat default).kd=true then((st2 xs ms s i).1.set m.c.toNat (((st2 xs ms s i).1.getD m.c.toNat []).set 0 m.a),(st2 xs ms s i).2)
  else((st2 xs ms s i).1,(st2 xs ms s i).2.set m.c.toNat (putL ((st2 xs ms s i).2.getD m.c.toNat []) m.a))
def stepP (xs:List Nd) (p:Pl) (cs:List Int) (fs:List T3) (LV:List Int):Pl×List T3:=
 let s:=st1 xs p cs fs LV xs.length
 let q:=st2 xs s.2.2 (s.1,s.2.1) s.2.2.length
 (⟨q.1,q.2⟩,s.2.2.filter fun m=>!decide (m.b=m.c))
theorem getD_set2 {α:Type} {l:List α} {i n:Nat} {x d:α}:(l.set i x).getD n d=if i=n/\i<l.length then x else l.getD n d:=by
 simp only[List.getD_eq_getElem?_getD,List.getElem?_set]
 by_cases h:i=n
 ·subst h
  by_cases h2:i<l.length
  ·simp[h2]
  ·simp[h2,List.getElem?_eq_none (Nat.le_of_not_lt h2)]
 ·simp[h]
theorem putL_cons (y:Int) (l:List Int) (x:Int):putL (y::l) x=if y<x then y::putL l x else x::y::l:=by
 unfold putL
 by_cases h:y<x
 ·simp[h]
 ·simp[h]
theorem putL_mem {l:List Int} {x z:Int}:z∈putL l x↔z=x\/z∈l:=by
 have h1:z∈l↔z∈l.takeWhile (fun y=>decide (y<x))\/z∈l.dropWhile (fun y=>decide (y<x)):=by
  rw[<-List.mem_append,List.takeWhile_append_dropWhile]
 rw[h1]
 simp only[putL,List.mem_append,List.mem_singleton]
 exact⟨fun h=>by rcases h with (h|h)|h<;>simp[h],fun h=>by rcases h with h|h|h<;>simp[h]⟩
theorem putL_sorted:∀{l:List Int} {x:Int},l.Pairwise (·<=·)->(putL l x).Pairwise (·<=·)
 |[],x,_=>by simp[putL]
 |y::l,x,h=>by
  rw[putL_cons]
  obtain⟨h1,h2⟩:=List.pairwise_cons.1 h
  split
  ·refine List.pairwise_cons.2 ⟨fun z hz=>?_,putL_sorted h2⟩
   rcases putL_mem.1 hz with rfl|hz
   ·omega
   ·exact h1 z hz
  ·refine List.pairwise_cons.2 ⟨fun z hz=>?_,h⟩
   rcases List.mem_cons.1 hz with rfl|hz
   ·omega
   ·have:=h1 z hz;omega
structure StOk (xs:List Nd) (c:Nat) (s:List (List Int)×List (List Int)):Prop where
 l1:s.1.length=xs.length
 l2:s.2.length=xs.length
 r1:∀n,n<xs.length->(s.1.getD n []).length=(xs.getD n default).ln.toNat
 r2:∀n,n<xs.length->(s.2.getD n []).Pairwise (·<=·)/\(s.2.getD n []).length<=500+c
theorem st1_ok {xs:List Nd} {p:Pl} {cs:List Int} {fs:List T3} {LV:List Int} (hp:FitP xs p) (hbs:∀n,n<xs.length->(p.bins.getD n []).Pairwise (·<=·)):
  ∀i,i<=xs.length->StOk xs 0 ((st1 xs p cs fs LV i).1,(st1 xs p cs fs LV i).2.1)
 |0,_=>⟨hp.sl,hp.bl,hp.row,fun n hn=>⟨hbs n hn,hp.bin n hn⟩⟩
 |i+1,hi=>by
  obtain⟨h1,h2,h3,h4⟩:=st1_ok (cs:=cs) (fs:=fs) (LV:=LV) hp hbs i (by omega)
  rw[st1]
  generalize st1 xs p cs fs LV i=s at*
  simp only at h1 h2 h3 h4 ⊢
  refine⟨?_,?_,fun n hn=>?_,fun n hn=>?_⟩
  ·split<;>simp[h1]
  ·split<;>(try split)<;>simp[h2]
  ·try simp only
   split
   ·rw[getD_set2]
    split
    ·rename_i h
     rw[advL_len,hp.row i (by omega),h.1]
    ·exact h3 n hn
   ·exact h3 n hn
  ·try simp only
   split
   ·exact h4 n hn
   ·split
    ·rw[getD_set2]
     split
     ·obtain⟨q1,q2⟩:=h4 i (by omega)
      exact⟨q1.filter _,Nat.le_trans (List.length_filter_le _ _) q2⟩
     ·exact h4 n hn
    ·exact h4 n hn
theorem st2_ok {xs:List Nd} {ms:List T3} {s:List (List Int)×List (List Int)} (h:StOk xs 0 s):∀i,StOk xs i (st2 xs ms s i)
 |0=>h
 |i+1=>by
  obtain⟨h1,h2,h3,h4⟩:=st2_ok (ms:=ms) h i
  rw[st2]
  generalize st2 xs ms s i=q at*
  have h4':∀n,n<xs.length->(q.2.getD n []).Pairwise (·<=·)/\(q.2.getD n []).length<=500+(i+1):=fun n hn=>⟨(h4 n hn).1,by have:=(h4 n hn).2;omega⟩
  try simp only
  split
  ·refine⟨by simp[h1],h2,fun n hn=>?_,h4'⟩
   try simp only
   rw[getD_set2]
   split
   ·rename_i h5
    obtain⟨rfl,h6⟩:=h5
    rw[List.length_set];exact h3 _ hn
   ·exact h3 n hn
  ·refine⟨h1,by simp[h2],h3,fun n hn=>?_⟩
   try simp only
   rw[getD_set2]
   split
   ·rename_i h5
    obtain⟨rfl,h6⟩:=h5
    rw[putL_length]
    exact⟨putL_sorted (h4 _ hn).1,by have:=(h4 _ hn).2;omega⟩
   ·exact h4' n hn
def ExOk (xs:List Nd):Prop:=∀n,n<xs.length->∀j,j<(xs.getD n default).ex.length->0<=(xs.getD n default).ex.getD j 0/\(xs.getD n default).ex.getD j 0<xs.length
def LvOk (xs:List Nd) (LV:List Int):Prop:=∀n,n<xs.length->0<=LV.getD n 0->LV.getD n 0<(xs.getD n default).ex.length
theorem st1_to {xs:List Nd} {p:Pl} {cs:List Int} {fs:List T3} {LV:List Int} (hx:ExOk xs) (hl:LvOk xs LV):∀i,i<=xs.length->∀m∈(st1 xs p cs fs LV i).2.2,0<=m.c/\m.c<xs.length
 |0,_,m,hm=>by cases hm
 |i+1,hi,m,hm=>by
  have ih:=st1_to (p:=p) (cs:=cs) (fs:=fs) hx hl i (by omega)
  rw[st1] at hm
  simp only at hm
  split at hm
  ·rename_i h
   rcases List.mem_append.1 hm with hm|hm
   ·exact ih m hm
   ·rw[List.mem_singleton] at hm
    subst hm
    have:=hl i (by omega) h
    exact hx i (by omega) _ (by omega)
  ·exact ih m hm
open Go.Plant
theorem estep_sat (y:Ly) (p:Pl) (ord cs:List Int) (fs:List T3) (hp:FitP y.nodes p) (hN:y.nodes.length<=11) (hc:cs.length=y.nodes.length) (hf:FitF y.nodes fs)
  (hx:∀m,m<y.nodes.length->0<=(wnts y.nodes p cs fs y.nodes.length).getD m 0->(wnts y.nodes p cs fs y.nodes.length).getD m 0<(y.nodes.getD m default).ex.length)
  (hol:ord.length<=1000) (hord:∀i,i<ord.length->0<=ord.getD i 0/\ord.getD i 0<y.nodes.length) (LV EN:List Int)
  (hLl:LV.length=y.nodes.length) (hx1:LvOk y.nodes LV) (hex:ExOk y.nodes) (hbs:∀n,n<y.nodes.length->(p.bins.getD n []).Pairwise (·<=·)) (hLV:flows y.nodes p (wnts y.nodes p cs fs y.nodes.length) ord=(LV,EN)):
  SatG Tryz.prog tab 47 [] [.ptI (plB y ord),p.av,IS cs, .sl (t3s fs) false]
   [(100,some (1, .own 22 1 (krows 3 (stepP y.nodes p cs fs LV).1.slots))),(101,some (1, .own 22 1 (krows 3 (stepP y.nodes p cs fs LV).1.bins))),(102,some (1, .own 44 3 (t3s (stepP y.nodes p cs fs LV).2)))]
   (.tup [.agg [.slO 100 1 0 (stepP y.nodes p cs fs LV).1.slots.length, .slO 101 1 0 (stepP y.nodes p cs fs LV).1.bins.length], .slO 102 1 0 (stepP y.nodes p cs fs LV).2.length]):=by
 have hflow:=flows_sat y p ord cs fs hp hN hc hf.len hx hol hord
 rw[hLV] at hflow
 have hxl:=hp.xl
 have hr1:∀i,i<p.slots.length->(p.slots.getD i []).length<=1000:=fun i hi=>by
  rw[hp.sl] at hi
  have:=hp.row i hi;have:=hp.ln i hi;omega
 have hr2:∀i,i<p.bins.length->(p.bins.getD i []).length<=1000:=fun i hi=>by
  rw[hp.bl] at hi
  have:=hp.bin i hi;omega
 have hs1l:∀i,(st1 y.nodes p cs fs LV i).1.length=p.slots.length:=fun i=>by
  induction i with
  |zero=>rfl
  |succ i ih=>rw[st1];simp only;split<;>simp[ih]
 have hs2l:∀i,(st1 y.nodes p cs fs LV i).2.1.length=p.bins.length:=fun i=>by
  induction i with
  |zero=>rfl
  |succ i ih=>rw[st1];simp only;split<;>(try split)<;>simp[ih]
 have hs3l:∀i,(st1 y.nodes p cs fs LV i).2.2.length<=i:=fun i=>by
  induction i with
  |zero=>exact Nat.le_refl _
  |succ i ih=>
   rw[st1];simp only
   split
   ·rw[List.length_append];simp only[List.length_singleton];omega
   ·omega
 have hs2b:∀i n,((st1 y.nodes p cs fs LV i).2.1.getD n []).length<=500:=fun i=>by
  induction i with
  |zero=>
   intro n
   by_cases h:n<p.bins.length
   ·exact hp.bin n (by rw[<-hp.bl];exact h)
   ·show(p.bins.getD n []).length<=500
    rw[List.getD_eq_getElem?_getD,List.getElem?_eq_none (by omega)]
    simp
  |succ i ih=>
   intro n
   rw[st1]
   simp only
   split
   ·exact ih n
   ·split
    ·generalize st1 y.nodes p cs fs LV i=s at ih
     have h1:=ih n
     have h2:=ih i
     rw[getD_set2]
     split
     ·exact Nat.le_trans (List.length_filter_le _ _) h2
     ·exact h1
    ·exact ih n
 refine uFN Tryz.func47 Tryz.ntmps47 ?_;intro w e X hC
 refine uA ?_
 refine uR ?_;intro K hK
 refine callP uTS (hflow) uTS uTS uTS ?_;refine uS ?_
 refine hK _ ?_;clear hK K
 refine uR ?_;intro K hK
 have z:=@Bool.or_true;refine callE [] [(125,12,100,1),(401,12,101,1)] false ((clone69_sat p (by rw[hp.sl];omega) (by rw[hp.bl];omega) hr1 hr2)) (uTR1 z) (uTR1 z) (uTE1 z) (uTE1 z) (uTE1 z) (uTE1 z) (uTE1 z) (uTE1 z) (uTE1 z) (uTE1 z) (uTE1 z) (uTE1 z) (uTE1 z) (uTE1 z) (uTE1 z) (uTE1 z) (uTE1 z) ?_;refine uQS1 z ?_;clear z
 refine hK _ ?_;clear hK K
 repeat refine uA ?_
 refine uW ?_
 refine awp_loopW (fun i:Nat×Nat×Nat=>⟨[(0, .ptI (plB y ord)),(2,IS cs),(3, .sl (t3s fs) false),(5, .ptO 105 1 0 0 0),(8, .ptO 108 2 0 0 0),(10, .ptO 110 9 0 0 0),(11, .ptO 111 13 0 0 0),(12, .slO 112 i.2.2 0 (st1 y.nodes p cs fs LV i.2.1).2.2.length),(30, .sl (nds y.nodes) false),(31,I y.nodes.length),(32,I i.2.1)],
  (112,some (i.2.2, .own 44 3 (t3s (st1 y.nodes p cs fs LV i.2.1).2.2)))::(111,some (13, .box [.slO 125 12 0 p.slots.length, .slO 401 12 0 p.bins.length]))::(125,some (12, .own 22 1 (krows 3 (st1 y.nodes p cs fs LV i.2.1).1)))::(401,some (12, .own 22 1 (krows 3 (st1 y.nodes p cs fs LV i.2.1).2.1)))::(110,some (9, .box [IS LV,IS EN]))::(108,some (2, .box [.sl [] true, .sl [] true]))::(105,some (1, .box [RS p.slots,RS p.bins]))::[],i.1⟩)
  (fun i=>i.2.1<=y.nodes.length) (fun i=>y.nodes.length - i.2.1) (_,0,_) (Nat.zero_le _) (.of (Nat.le_refl _) (by repeat first|exact HOk.nil|refine uHN ?_|(refine HOk.cons ?_ ?_;(focus (simp only[go_sem,Nat.reduceAdd,Nat.reduceSub,Nat.reduceMul,Nat.reduceLT,Nat.reduceEqDiff,Nat.reduceBEq,Nat.reduceLeDiff,Int.reduceToNat,↓reduceIte,Int.reduceEq,Int.reduceLT,Int.reduceLE,Int.reduceAdd,Int.reduceSub,Int.reduceNeg,reduceCtorEq,st1];done)))) (by repeat first|exact WOk.nil|refine uWN ?_|(refine WOk.cons ?_ ?_;(focus (simp only[go_sem,Nat.reduceAdd,Nat.reduceSub,Nat.reduceMul,Nat.reduceLT,Nat.reduceEqDiff,Nat.reduceBEq,Nat.reduceLeDiff,Int.reduceToNat,↓reduceIte,Int.reduceEq,Int.reduceLT,Int.reduceLE,Int.reduceAdd,Int.reduceSub,Int.reduceNeg,reduceCtorEq,st1];done))))) ?_
 ·rintro⟨ck,i,gm⟩ hi
  simp only at hi
  have hL1:=hs1l i
  have hL2:=hs2l i
  have hB2:=hs2b i i
  have hL3:=hs3l i
  have hex1:st1 y.nodes p cs fs LV (i+1)=_:=st1.eq_2 y.nodes p cs fs LV i
  have hto:=st1_to (p:=p) (cs:=cs) (fs:=fs) hex hx1 i hi
  have hok:=st1_ok (cs:=cs) (fs:=fs) (LV:=LV) hp hbs i hi
  generalize hsE:st1 y.nodes p cs fs LV i=s at*
  obtain⟨s1,s2,s3⟩:=s
  simp only at hL1 hL2 hB2 hL3 hex1
  repeat refine uA ?_
  refine uW ?_;refine condP _ rfl (fun h=>?_) (fun h=>?_)
  ·have hlt:i<y.nodes.length:=by omega
   have hic:i<cs.length:=by omega
   have hiL:i<LV.length:=by omega
   have hadv:=fun h0=>eadvance_sat y p ord fs i (decide (0<=LV.getD i 0)) hp hf hlt h0
   have hAl:(advL (p.slots.getD i []) (atF fs i (y.nodes.getD i default).ln.toNat) (decide (0<=LV.getD i 0))).1.length=(p.slots.getD i []).length:=advL_len _ _ _
   have hrow:=hp.row i hlt
   have hps:=hp.sl
   have hpb:=hp.bl
   have hst:isStrip (y.nodes.getD i default).kd=true->1<=(y.nodes.getD i default).ln:=hp.st i hlt
   have hln:=hp.ln i hlt
   have his:i<s1.length:=by rw[hL1,hp.sl];exact hlt
   have hib:i<s2.length:=by rw[hL2,hp.bl];exact hlt
   generalize e2:y.nodes.getD i default=x at*
   repeat refine uA1 (uI (nds_getD hlt) @e2) ?_
   refine uD1 (uI (ints_getD hic) (ints_getD hiL)) ?_;intro K hK
   refine uH ?_
   refine hK _ ?_;clear hK K
   have hbg:bagOf y.nodes p cs fs LV i=if isStrip x.kd=true then(advL (p.slots.getD i []) (atF fs i x.ln.toNat) (decide (0<=LV.getD i 0))).2 else cs.getD i 0:=by rw[bagOf,e2]
   generalize bagOf y.nodes p cs fs LV i=bg at*
   generalize advL (p.slots.getD i []) (atF fs i x.ln.toNat) (decide (0<=LV.getD i 0))=A at*
   generalize hn1:(if isStrip x.kd=true then s1.set i A.1 else s1)=n1 at*
   generalize hn2:(if isStrip x.kd=true then s2 else if 0<=LV.getD i 0 then s2.set i ((s2.getD i []).filter fun y=>!decide (y=cs.getD i 0)) else s2)=n2 at*
   refine awp_seq ?_
   refine awp_merge (fun q:Nat=>⟨[(0, .ptI (plB y ord)),(2,IS cs),(3, .sl (t3s fs) false),(5, .ptO 105 1 0 0 0),(8, .ptO 108 2 0 0 0),(10, .ptO 110 9 0 0 0),(11, .ptO 111 13 0 0 0),(12, .slO 112 gm 0 s3.length),(13,I i),(14, .ptO 114 (ck+4) 0 0 0),(15, .ptO 115 (ck+17) 0 0 0),(16,B (decide (0<=LV.getD i 0))),(30, .sl (nds y.nodes) false),(31,I y.nodes.length),(32,I i)],(115,some (ck+17, .box [I bg]))::(114,some (ck+4, .box [S x.nm,I x.kd,I x.ln,I x.zn,IS x.ex]))::(112,some (gm, .own 44 3 (t3s s3)))::(111,some (13, .box [.slO 125 12 0 p.slots.length, .slO 401 12 0 p.bins.length]))::(125,some (12, .own 22 1 (krows 3 n1)))::(401,some (12, .own 22 1 (krows 3 n2)))::(110,some (9, .box [IS LV,IS EN]))::(108,some (2, .box [.sl [] true, .sl [] true]))::(105,some (1, .box [RS p.slots,RS p.bins]))::[],q⟩) (fun _=>True) ?_ ?_
   ·refine uR ?_;intro K hK
    refine callF uTS ((fstrip_sat x.kd)) uTS uTS uTS ?_;refine uS ?_
    refine hK _ ?_;clear hK K
    cases c1:isStrip x.kd with
    |true=>
     rw[c1] at hn1 hn2 hbg
     simp only[if_true] at hn1 hn2 hbg
     refine uT ?_
     have hr0:0<(p.slots.getD i []).length:=by have:=hst c1;omega
     have hadv':=hadv hr0
     generalize (p.slots.getD i []).length=rl at*
     refine uD ?_;intro K hK
     refine callE [] [(159,ck+31,100,1)] false (hadv') uTR uTR uTE uTE uTE uTE uTE uTE uTE uTE uTE uTE uTE uTE uTE uTE uTE ?_;refine uQS ?_
     refine uH ?_
     refine hK _ ?_;clear hK K
     subst hn2 hbg
     refine⟨_,trivial, .of (Nat.le_refl _) (uHF1 @hn1) uWF⟩
    |false=>
     rw[c1] at hn1 hn2 hbg
     simp only[Bool.false_eq_true,if_false] at hn1 hn2 hbg
     subst hn1 hbg
     refine uF ?_
     refine uA ?_
     refine uW ?_;refine condP _ rfl (fun c2=>?_) (fun c2=>?_)
     ·rw[if_pos c2] at hn2
      (repeat first|refine awp_seq ?_|refine awp_skip ?_|refine awp_block ?_);refine awp_region_drawR hC (by kernel_rfl) (by kernel_rfl) rfl fun K hK=>?_;simp only[go_sem,Nat.reduceAdd,Nat.reduceSub,Nat.reduceMul,Nat.reduceLT,Nat.reduceEqDiff,Nat.reduceBEq,Nat.reduceLeDiff,Int.reduceToNat,↓reduceIte,Int.reduceEq,Int.reduceLT,Int.reduceLE,Int.reduceAdd,Int.reduceSub,Int.reduceNeg,reduceCtorEq,krows_getD hib,hL2,hpb]
      refine⟨by omega,by omega,?_⟩
      refine callE [(0,0,171,ck+31)] [(173,ck+33,100,1)] true ((delI_sat (s2.getD i []) 84 [I (cs.getD i 0)] (fun y=>decide (y=cs.getD i 0)) (by omega) (fun y _=>step1_sat (cs.getD i 0) y))) uTR uTR uTE uTE uTE uTE uTE uTE uTE uTE uTE uTE uTE uTE uTE uTE uTE ?_;refine uQS ?_
      refine uH ?_
      refine hK _ ?_;clear hK K
      refine⟨_,trivial, .of (Nat.le_refl _) (uHF1 (uI @hn2 (uI @hpb @List.set_set.{0}))) uWF⟩
     ·rw[if_neg c2] at hn2
      subst hn2
      refine uW ?_
      refine⟨_,trivial,uKF⟩
   ·rintro ck2 -
    have hxe:=hx1 i hlt
    rw[e2] at hxe
    repeat refine uA ?_
    refine uW ?_;refine condP _ rfl (fun c3=>?_) (fun c3=>?_)
    ·rw[if_pos c3] at hex1
     obtain⟨k,hk⟩:∃k:Nat,k=(LV.getD i 0).toNat:=⟨_,rfl⟩
     have hkk:LV.getD i 0=(k:Int):=by omega
     rw[<-hk] at hex1
     have hkx:=hxe c3
     rw[hkk] at hkx
     have hkx':k<x.ex.length:=by omega
     refine uD1 (uI (ints_getD hiL) (uI @hkk (ints_getD hkx'))) ?_;intro K hK
     refine uH ?_
     refine hK _ ?_;clear hK K
     repeat refine uA ?_
     refine⟨(_,i+1,gm),by simp only;omega,by simp only;omega, .of (Nat.le_refl _) (uHF1 @hex1) (uWF1 (uI @hex1 @List.length_singleton.{0}))⟩
    ·rw[if_neg c3] at hex1
     repeat refine uA ?_
     refine⟨(_,i+1,gm),by simp only;omega,by simp only;omega, .of (Nat.le_refl _) (uHF1 @hex1) (uWF1 @hex1)⟩
  ·refine awp_exit ?_
   obtain rfl:i=y.nodes.length:=by omega
   have hok2:=st2_ok (ms:=s3) hok
   have hps:=hp.sl
   have hpb:=hp.bl
   clear hok hL1 hL2 hB2 hex1
   repeat refine uA ?_
   refine uW ?_
   refine awp_loopW (fun i:Nat×Nat=>⟨[(0, .ptI (plB y ord)),(2,IS cs),(3, .sl (t3s fs) false),(5, .ptO 105 1 0 0 0),(8, .ptO 108 2 0 0 0),(10, .ptO 110 9 0 0 0),(11, .ptO 111 13 0 0 0),(12, .slO 112 gm 0 s3.length),(92, .slO 112 gm 0 s3.length),(93,I s3.length),(94,I i.2)],
    (112,some (gm, .own 44 3 (t3s s3)))::(111,some (13, .box [.slO 125 12 0 p.slots.length, .slO 401 12 0 p.bins.length]))::(125,some (12, .own 22 1 (krows 3 (st2 y.nodes s3 (s1,s2) i.2).1)))::(401,some (12, .own 22 1 (krows 3 (st2 y.nodes s3 (s1,s2) i.2).2)))::(110,some (9, .box [IS LV,IS EN]))::(108,some (2, .box [.sl [] true, .sl [] true]))::(105,some (1, .box [RS p.slots,RS p.bins]))::[],i.1⟩)
    (fun i=>i.2<=s3.length) (fun i=>s3.length - i.2) (_,0) (Nat.zero_le _) (.of (Nat.le_refl _) (by repeat first|exact HOk.nil|refine uHN ?_|(refine HOk.cons ?_ ?_;(focus (simp only[go_sem,Nat.reduceAdd,Nat.reduceSub,Nat.reduceMul,Nat.reduceLT,Nat.reduceEqDiff,Nat.reduceBEq,Nat.reduceLeDiff,Int.reduceToNat,↓reduceIte,Int.reduceEq,Int.reduceLT,Int.reduceLE,Int.reduceAdd,Int.reduceSub,Int.reduceNeg,reduceCtorEq,st2];done)))) (by repeat first|exact WOk.nil|refine uWN ?_|(refine WOk.cons ?_ ?_;(focus (simp only[go_sem,Nat.reduceAdd,Nat.reduceSub,Nat.reduceMul,Nat.reduceLT,Nat.reduceEqDiff,Nat.reduceBEq,Nat.reduceLeDiff,Int.reduceToNat,↓reduceIte,Int.reduceEq,Int.reduceLT,Int.reduceLE,Int.reduceAdd,Int.reduceSub,Int.reduceNeg,reduceCtorEq];done))))) ?_
   rintro⟨ck,i⟩ hi
   simp only at hi
   have hoki:=hok2 i
   have hE:st2 y.nodes s3 (s1,s2) (i+1)=_:=st2.eq_2 y.nodes s3 (s1,s2) i
   generalize hqE:st2 y.nodes s3 (s1,s2) i=q at*
   obtain⟨q1,q2⟩:=q
   obtain⟨hq1,hq2,hq3,hq4⟩:=hoki
   simp only at hq1 hq2 hq3 hq4 hE
   repeat refine uA ?_
   refine uW ?_;refine condP _ rfl (fun h1=>?_) (fun h1=>?_)
   ·have hlt:i<s3.length:=by omega
    obtain⟨hm0,hm1⟩:=hto (s3.getD i default) (mem_getD hlt)
    generalize e3:s3.getD i default=m at*
    obtain⟨k,hk⟩:∃k:Nat,k=m.c.toNat:=⟨_,rfl⟩
    have hmk:m.c=(k:Int):=by omega
    rw[<-hk] at hE
    have hkn:k<y.nodes.length:=by omega
    have hkq1:k<q1.length:=by omega
    have hkq2:k<q2.length:=by omega
    have hr1:=hq3 k hkn
    obtain⟨hr2,hr3⟩:=hq4 k hkn
    have hst:isStrip (y.nodes.getD k default).kd=true->1<=(y.nodes.getD k default).ln:=hp.st k hkn
    generalize e4:y.nodes.getD k default=x at*
    refine uA1 (uI (t3s_getD hlt) @e3) ?_
    refine uE1 (uI @hmk (uI (nds_getD hkn) @e4)) ?_;intro K hK
    refine⟨by omega,?_⟩
    refine callF uTS ((fstrip_sat x.kd)) uTS uTS uTS ?_;refine uS ?_
    refine uH ?_
    refine hK _ ?_;clear hK K
    cases c1:isStrip x.kd with
    |true=>
     have:=hst c1
     have hr0:0<(q1.getD k []).length:=by omega
     rw[c1] at hE
     simp only[if_true] at hE
     refine uT ?_
     (repeat first|refine awp_seq ?_|refine awp_skip ?_|refine awp_block ?_);refine awp_region_drawR hC (by kernel_rfl) (by kernel_rfl) rfl fun K hK=>?_;simp only[go_sem,Nat.reduceAdd,Nat.reduceSub,Nat.reduceMul,Nat.reduceLT,Nat.reduceEqDiff,Nat.reduceBEq,Nat.reduceLeDiff,Int.reduceToNat,↓reduceIte,Int.reduceEq,Int.reduceLT,Int.reduceLE,Int.reduceAdd,Int.reduceSub,Int.reduceNeg,reduceCtorEq,krows_getD hkq1,hq1,hps,hmk]
     refine uH ?_
     refine hK _ ?_;clear hK K
     have hsk:∀v,((krows 3 q1).set k v).getD k .bad=v:=fun v=>by
      rw[getD_set2,if_pos ⟨rfl,by rw[krows_length];exact hkq1⟩]
     have hlk:((q1.getD k []).set 0 m.a).length=(q1.getD k []).length:=List.length_set
     refine awp_attach (id:=125) (gi:=12) (t:=22) (k:=1) (i:=k) (rid:=214) (rg:=ck+21) (n:=(q1.getD k []).length) rfl (by rw[List.length_set,krows_length];exact hkq1) (hsk _) (by decide) ?_ ?_
     ·simp only[go_sem,Nat.reduceAdd,Nat.reduceSub,Nat.reduceMul,Nat.reduceLT,Nat.reduceEqDiff,Nat.reduceBEq,Nat.reduceLeDiff,Int.reduceToNat,↓reduceIte,Int.reduceEq,Int.reduceLT,Int.reduceLE,Int.reduceAdd,Int.reduceSub,Int.reduceNeg,reduceCtorEq,attP,hlk]
     ·simp only[go_sem,Nat.reduceAdd,Nat.reduceSub,Nat.reduceMul,Nat.reduceLT,Nat.reduceEqDiff,Nat.reduceBEq,Nat.reduceLeDiff,Int.reduceToNat,↓reduceIte,Int.reduceEq,Int.reduceLT,Int.reduceLE,Int.reduceAdd,Int.reduceSub,Int.reduceNeg,reduceCtorEq,att,List.set_set]
      repeat refine uA ?_
      refine⟨(_,i+1),by simp only;omega,by simp only;omega, .of (Nat.le_refl _) (uHF1 (uI @hE @hps)) uWF⟩
    |false=>
     rw[c1] at hE
     simp only[Bool.false_eq_true,if_false] at hE
     refine uF ?_
     (repeat first|refine awp_seq ?_|refine awp_skip ?_|refine awp_block ?_);refine awp_region_drawR hC (by kernel_rfl) (by kernel_rfl) rfl fun K hK=>?_;simp only[go_sem,Nat.reduceAdd,Nat.reduceSub,Nat.reduceMul,Nat.reduceLT,Nat.reduceEqDiff,Nat.reduceBEq,Nat.reduceLeDiff,Int.reduceToNat,↓reduceIte,Int.reduceEq,Int.reduceLT,Int.reduceLE,Int.reduceAdd,Int.reduceSub,Int.reduceNeg,reduceCtorEq,krows_getD hkq2,hq2,hpb,hmk]
     refine⟨by omega,by omega,?_⟩
     refine callE [(0,0,227,ck+25)] [(230,ck+28,100,1)] false ((eput_sat (q2.getD k []) m.a (by omega) hr2)) uTR uTR uTE uTE uTE uTE uTE uTE uTE uTE uTE uTE uTE uTE uTE uTE uTE ?_;refine uQS ?_
     refine uH ?_
     refine hK _ ?_;clear hK K
     repeat refine uA ?_
     refine⟨(_,i+1),by simp only;omega,by simp only;omega, .of (Nat.le_refl _) (uHF1 (uI @hE (uI @hpb @List.set_set.{0}))) uWF⟩
   ·refine awp_exit ?_
    obtain rfl:i=s3.length:=by omega
    have hst:stepP y.nodes p cs fs LV=(⟨q1,q2⟩,s3.filter fun m=>!decide (m.b=m.c)):=by
     unfold stepP;rw[hsE];simp only[hqE]
    rw[hst]
    simp only
    refine uD ?_;intro K hK
    refine callE [(0,0,112,gm)] [(235,ck+3,100,1)] false ((delP_sat s3 87 (fun m=>decide (m.b=m.c)) (by omega) (fun m _=>step2_sat m))) uTR uTR uTE uTE uTE uTE uTE uTE uTE uTE uTE uTE uTE uTE uTE uTE uTE ?_;refine uQS ?_
    refine uH ?_
    refine hK _ ?_;clear hK K
    have hA:p.slots.length=q1.length:=by omega
    have hB:p.bins.length=q2.length:=by omega
    rw[hA,hB]
    refine awp_ret ?_;rw[show Tryz.f47.results.toList=[.cell 8 34, .tmp 9] from rfl];(refine retG [(100,1,125,12),(101,1,401,12),(102,1,235,ck+3)] uRG (by simp) (by simp) (by simp) uTG uTG uTG ?_ ?_;all_goals (first|refine uSG ?_|exact uXG|skip))
theorem by_sat (x y:T3) (h:-9223372036854775808<=x.b - y.b/\x.b - y.b<=9223372036854775807):SatG Tryz.prog tab 49 [] [x.av,y.av] [] (I (x.b - y.b)):=by
 refine uFN Tryz.func49 Tryz.ntmps49 ?_;intro w e X hC
 repeat refine uA ?_
 (refine awp_ret (ret1 uRT ?_);try rfl)
def Asc (l:List T3):Prop:=∀i,i+1<l.length->(l.getD i default).b<=(l.getD (i+1) default).b
def Sml (l:List T3):Prop:=∀i,i<l.length->0<=(l.getD i default).b/\(l.getD i default).b<=1000
theorem isort_sat (l:List T3) (hl:l.length<=12) (ha:Asc l) (hs:Sml l):
  SatG Tryz.prog tab 126 [(0,some (0, .own 44 3 (t3s l)))] [.slO 0 0 0 l.length,I 0,I l.length, .fn 49 []] [(0,some (0, .own 44 3 (t3s l)))] (.tup []):=by
 refine uFN Tryz.func126 Tryz.ntmps126 ?_;intro w e X hC
 repeat refine uA ?_
 refine uW ?_
 refine awp_loopW (fun i:Nat×Nat=>⟨[(0, .slO 0 0 0 l.length),(1,I 0),(2,I l.length),(3, .fn 49 []),(8,I (i.2+1:Nat))],(0,some (0, .own 44 3 (t3s l)))::[],i.1⟩) (fun i=>True) (fun i=>l.length - i.2) (_,0) trivial (uKF) ?_
 rintro⟨ck,i⟩ -
 repeat refine uA ?_
 refine uW ?_;refine condP _ rfl (fun h=>?_) (fun h=>?_)
 ·have h1:i+1<l.length:=by omega
  repeat refine uA ?_
  refine uW ?_
  refine awp_loopW (fun k:Nat=>⟨[(0, .slO 0 0 0 l.length),(1,I 0),(2,I l.length),(3, .fn 49 []),(8,I (i+1:Nat)),(9,I (i+1:Nat))],(0,some (0, .own 44 3 (t3s l)))::[],k⟩) (fun _=>True) (fun _=>0) _ trivial (uKF) ?_
  rintro k -
  have d1:decide (0<((i+1:Nat):Int))=true:=decide_eq_true (by omega)
  have hb:=ha i h1
  have hs1:=hs i (by omega)
  have hs2:=hs (i+1) h1
  have hi0:i<l.length:=by omega
  have hsat:=by_sat (l.getD (i+1) default) (l.getD i default) (by omega)
  have d2:decide ((l.getD (i+1) default).b - (l.getD i default).b<0)=false:=decide_eq_false (by omega)
  have e1:((i+1:Nat):Int) - 1=(i:Int):=by omega
  refine uE1 (uI @d1 (uI @e1 (uI (t3s_getD h1) (t3s_getD hi0)))) ?_;intro K hK
  refine⟨by omega,by omega,by omega,by omega,by omega,?_⟩
  refine callF uTS (hsat) uTS uTS uTS ?_;refine uS ?_
  refine uH ?_
  refine hK _ ?_;clear hK K
  refine uW ?_;refine condP _ rfl (fun c1=>?_) (fun c1=>?_)
  ·omega
  ·refine awp_exit ?_
   repeat refine uA ?_
   refine⟨(_,i+1),trivial,by simp only;omega,uKF⟩
 ·refine awp_exit ?_
  show ∃σ D,RetG _ Tryz.f126.results.toList σ D _ _ _;rw[show Tryz.f126.results.toList=[] from rfl];(refine retG [(0,0,0,0)] uRG (by simp) (by simp) (by simp) uTG uTG uTG ?_ ?_;all_goals (first|refine uSG ?_|exact uXG|skip))
theorem len64_sat (n:Nat) (h:n<13):SatG Tryz.prog tab 135 [] [U n] [] (I ([0,1,2,2,3,3,3,3,4,4,4,4,4].getD n 0)):=by
 have d1:decide ((4294967296:Int)<=n)=false:=decide_eq_false (by omega)
 have d2:decide ((65536:Int)<=n)=false:=decide_eq_false (by omega)
 have d3:decide ((256:Int)<=n)=false:=decide_eq_false (by omega)
 refine uFN Tryz.func135 Tryz.ntmps135 ?_;intro w e X hC
 refine uA ?_
 refine uR1 @d1 ?_;intro K hK
 refine hK _ ?_;clear hK K
 refine uF ?_
 refine uR1 @d2 ?_;intro K hK
 refine hK _ ?_;clear hK K
 refine uF ?_
 refine uR1 @d3 ?_;intro K hK
 refine hK _ ?_;clear hK K
 refine uF ?_
 have hc:n=0\/n=1\/n=2\/n=3\/n=4\/n=5\/n=6\/n=7\/n=8\/n=9\/n=10\/n=11\/n=12:=by omega
 refine uR ?_;intro K hK
 refine⟨?_,?_,?_⟩
 ·rcases hc with rfl|rfl|rfl|rfl|rfl|rfl|rfl|rfl|rfl|rfl|rfl|rfl|rfl<;>exact of_decide_eq_true (by kernel_rfl)
 ·rcases hc with rfl|rfl|rfl|rfl|rfl|rfl|rfl|rfl|rfl|rfl|rfl|rfl|rfl<;>exact of_decide_eq_true (by kernel_rfl)
 ·refine hK _ ?_;clear hK K
  (refine awp_ret (ret1 uRT ?_);try rfl)
  rcases hc with rfl|rfl|rfl|rfl|rfl|rfl|rfl|rfl|rfl|rfl|rfl|rfl|rfl<;>kernel_rfl
theorem len_sat (n:Nat) (h:n<13):SatG Tryz.prog tab 89 [] [U n] [] (I ([0,1,2,2,3,3,3,3,4,4,4,4,4].getD n 0)):=by
 refine uFN Tryz.func89 Tryz.ntmps89 ?_;intro w e X hC
 refine uA ?_
 refine uF ?_
 refine uR ?_;intro K hK
 refine callF uTS ((len64_sat n h)) uTS uTS uTS ?_;refine uS ?_
 refine hK _ ?_;clear hK K
 (refine awp_ret (ret1 uRT ?_);try rfl)
theorem pdq_sat (l:List T3) (lim:Int) (hl:l.length<=12) (ha:Asc l) (hs:Sml l):
  SatG Tryz.prog tab 88 [(0,some (0, .own 44 3 (t3s l)))] [.slO 0 0 0 l.length,I 0,I l.length,I lim, .fn 49 []] [(0,some (0, .own 44 3 (t3s l)))] (.tup []):=by
 refine uFN Tryz.func88 Tryz.ntmps88 ?_;intro w e X hC
 repeat refine uA ?_
 refine uW ?_
 refine awp_loopW (fun k:Nat=>⟨[(0, .slO 0 0 0 l.length),(1,I 0),(2,I l.length),(4, .fn 49 [])],(0,some (0, .own 44 3 (t3s l)))::[],k⟩) (fun _=>True) (fun _=>0) _ trivial (uKF) ?_
 rintro k -
 have e1:(l.length:Int) - 0=l.length:=by omega
 repeat refine uA1 @e1 ?_
 refine uW ?_;refine condP _ rfl (fun h=>?_) (fun h=>?_)
 ·refine uR ?_;intro K hK
  refine callE [(0,0,0,0)] [(0,0,0,0)] true ((isort_sat l hl ha hs)) uTR uTR uTE uTE uTE uTE uTE uTE uTE uTE uTE uTE uTE uTE uTE uTE uTE ?_;refine uQS ?_
  refine hK _ ?_;clear hK K
  refine uW ?_
  refine awp_ret ?_;rw[show Tryz.f88.results.toList=[] from rfl];(refine retG [(0,0,0,0)] uRG (by simp) (by simp) (by simp) uTG uTG uTG ?_ ?_;all_goals (first|refine uSG ?_|exact uXG|skip))
 ·omega
theorem sortP_sat (l:List T3) (hl:l.length<=12) (ha:Asc l) (hs:Sml l):
  SatG Tryz.prog tab 48 [(0,some (0, .own 44 3 (t3s l)))] [.slO 0 0 0 l.length, .fn 49 []] [(0,some (0, .own 44 3 (t3s l)))] (.tup []):=by
 have e1:=u64_nat (a:=l.length) (by omega)
 have hlen:=len_sat l.length (by omega)
 generalize [0,1,2,2,3,3,3,3,4,4,4,4,4].getD l.length (0:Int)=lim at hlen
 refine uFN Tryz.func48 Tryz.ntmps48 ?_;intro w e X hC
 refine uA ?_
 refine uR1 @e1 ?_;intro K hK
 refine callF uTS (hlen) uTS uTS uTS ?_;refine uS ?_
 refine callE [(0,0,0,0)] [(0,0,0,0)] true ((pdq_sat l lim hl ha hs)) uTR uTR uTE uTE uTE uTE uTE uTE uTE uTE uTE uTE uTE uTE uTE uTE uTE ?_;refine uQS ?_
 refine hK _ ?_;clear hK K
 show ∃σ D,RetG _ Tryz.f48.results.toList σ D _ _ _;rw[show Tryz.f48.results.toList=[] from rfl];(refine retG [(0,0,0,0)] uRG (by simp) (by simp) (by simp) uTG uTG uTG ?_ ?_;all_goals (first|refine uSG ?_|exact uXG|skip))
abbrev U8 (c:Nat):AV:= .lit (.int .u8 (c:Int))
def letB (c:Nat):Bool:=decide ((65:Int)<=c)&&decide ((c:Int)<=90)
def digB (c:Nat):Bool:=decide ((48:Int)<=c)&&decide ((c:Int)<=57)
def bs (s:ByteArray):List Nat:=s.data.toList.map UInt8.toNat
def nameOk (s:ByteArray):Bool:=decide (1<=(bs s).length)&&(decide ((bs s).length<=12)&&(letB ((bs s).getD 0 0)&&(bs s).all fun c=>letB c||digB c))
theorem bs_len (s:ByteArray):(bs s).length=s.data.toList.length:=by simp[bs]
theorem bs_getD (s:ByteArray) (i:Nat):(s.data.toList.getD i 0).toNat=(bs s).getD i 0:=by
 unfold bs
 by_cases h:i<s.data.toList.length
 ·simp only[List.getD_eq_getElem?_getD,List.getElem?_map,List.getElem?_eq_getElem h];rfl
 ·simp only[List.getD_eq_getElem?_getD,List.getElem?_map,List.getElem?_eq_none (Nat.le_of_not_lt h)];rfl
theorem letter_sat (c:Nat):SatG Tryz.prog tab 172 [] [U8 c] [] (B (letB c)):=by
 refine uFN Tryz.func172 Tryz.ntmps172 ?_;intro w e X hC
 cases d1:decide ((65:Int)<=c) with
 |true=>
  repeat refine uA1 @d1 ?_
  (refine awp_ret (ret1 uRT ?_);try rfl)
  simp only[go_sem,Nat.reduceAdd,Nat.reduceSub,Nat.reduceMul,Nat.reduceLT,Nat.reduceEqDiff,Nat.reduceBEq,Nat.reduceLeDiff,Int.reduceToNat,↓reduceIte,Int.reduceEq,Int.reduceLT,Int.reduceLE,Int.reduceAdd,Int.reduceSub,Int.reduceNeg,reduceCtorEq,letB,d1,Bool.true_and]
 |false=>
  repeat refine uA1 @d1 ?_
  (refine awp_ret (ret1 uRT ?_);try rfl)
  simp only[go_sem,Nat.reduceAdd,Nat.reduceSub,Nat.reduceMul,Nat.reduceLT,Nat.reduceEqDiff,Nat.reduceBEq,Nat.reduceLeDiff,Int.reduceToNat,↓reduceIte,Int.reduceEq,Int.reduceLT,Int.reduceLE,Int.reduceAdd,Int.reduceSub,Int.reduceNeg,reduceCtorEq,letB,d1,Bool.false_and]
theorem digit_sat (c:Nat):SatG Tryz.prog tab 175 [] [U8 c] [] (B (digB c)):=by
 refine uFN Tryz.func175 Tryz.ntmps175 ?_;intro w e X hC
 cases d1:decide ((48:Int)<=c) with
 |true=>
  repeat refine uA1 @d1 ?_
  (refine awp_ret (ret1 uRT ?_);try rfl)
  simp only[go_sem,Nat.reduceAdd,Nat.reduceSub,Nat.reduceMul,Nat.reduceLT,Nat.reduceEqDiff,Nat.reduceBEq,Nat.reduceLeDiff,Int.reduceToNat,↓reduceIte,Int.reduceEq,Int.reduceLT,Int.reduceLE,Int.reduceAdd,Int.reduceSub,Int.reduceNeg,reduceCtorEq,digB,d1,Bool.true_and]
 |false=>
  repeat refine uA1 @d1 ?_
  (refine awp_ret (ret1 uRT ?_);try rfl)
  simp only[go_sem,Nat.reduceAdd,Nat.reduceSub,Nat.reduceMul,Nat.reduceLT,Nat.reduceEqDiff,Nat.reduceBEq,Nat.reduceLeDiff,Int.reduceToNat,↓reduceIte,Int.reduceEq,Int.reduceLT,Int.reduceLE,Int.reduceAdd,Int.reduceSub,Int.reduceNeg,reduceCtorEq,digB,d1,Bool.false_and]
theorem letter2_sat (c:Nat):SatG Tryz.prog tab 156 [] [U8 c] [] (B (letB c)):=by
 refine uFN Tryz.func156 Tryz.ntmps156 ?_;intro w e X hC
 cases d1:decide ((65:Int)<=c) with
 |true=>
  repeat refine uA1 @d1 ?_
  (refine awp_ret (ret1 uRT ?_);try rfl)
  simp only[go_sem,Nat.reduceAdd,Nat.reduceSub,Nat.reduceMul,Nat.reduceLT,Nat.reduceEqDiff,Nat.reduceBEq,Nat.reduceLeDiff,Int.reduceToNat,↓reduceIte,Int.reduceEq,Int.reduceLT,Int.reduceLE,Int.reduceAdd,Int.reduceSub,Int.reduceNeg,reduceCtorEq,letB,d1,Bool.true_and]
 |false=>
  repeat refine uA1 @d1 ?_
  (refine awp_ret (ret1 uRT ?_);try rfl)
  simp only[go_sem,Nat.reduceAdd,Nat.reduceSub,Nat.reduceMul,Nat.reduceLT,Nat.reduceEqDiff,Nat.reduceBEq,Nat.reduceLeDiff,Int.reduceToNat,↓reduceIte,Int.reduceEq,Int.reduceLT,Int.reduceLE,Int.reduceAdd,Int.reduceSub,Int.reduceNeg,reduceCtorEq,letB,d1,Bool.false_and]
theorem digit2_sat (c:Nat):SatG Tryz.prog tab 157 [] [U8 c] [] (B (digB c)):=by
 refine uFN Tryz.func157 Tryz.ntmps157 ?_;intro w e X hC
 cases d1:decide ((48:Int)<=c) with
 |true=>
  repeat refine uA1 @d1 ?_
  (refine awp_ret (ret1 uRT ?_);try rfl)
  simp only[go_sem,Nat.reduceAdd,Nat.reduceSub,Nat.reduceMul,Nat.reduceLT,Nat.reduceEqDiff,Nat.reduceBEq,Nat.reduceLeDiff,Int.reduceToNat,↓reduceIte,Int.reduceEq,Int.reduceLT,Int.reduceLE,Int.reduceAdd,Int.reduceSub,Int.reduceNeg,reduceCtorEq,digB,d1,Bool.true_and]
 |false=>
  repeat refine uA1 @d1 ?_
  (refine awp_ret (ret1 uRT ?_);try rfl)
  simp only[go_sem,Nat.reduceAdd,Nat.reduceSub,Nat.reduceMul,Nat.reduceLT,Nat.reduceEqDiff,Nat.reduceBEq,Nat.reduceLeDiff,Int.reduceToNat,↓reduceIte,Int.reduceEq,Int.reduceLT,Int.reduceLE,Int.reduceAdd,Int.reduceSub,Int.reduceNeg,reduceCtorEq,digB,d1,Bool.false_and]
theorem name1_sat (c:Nat):SatG Tryz.prog tab 174 [] [U8 c] [] (B (letB c||digB c)):=by
 have h1:=letter_sat c
 have h2:=digit_sat c
 generalize letB c=a at*
 generalize digB c=b at*
 refine uFN Tryz.func174 Tryz.ntmps174 ?_;intro w e X hC
 refine uA ?_
 refine uR ?_;intro K hK
 refine callF uTS (h1) uTS uTS uTS ?_;refine uS ?_
 cases a with
 |true=>
  first|refine uS ?_|exact uX
  refine hK _ ?_;clear hK K
  (refine awp_ret (ret1 uRT ?_);try rfl)
 |false=>
  first|refine uS ?_|exact uX
  refine callF uTS (h2) uTS uTS uTS ?_;refine uS ?_
  refine hK _ ?_;clear hK K
  (refine awp_ret (ret1 uRT ?_);try rfl)
theorem bs_size (s:ByteArray):(bs s).length=s.size:=by simp[bs_len]
theorem all_sat (s:ByteArray) (k:Nat) (p:Nat->Bool) (hl:(bs s).length<=1000) (hk:∀c,SatG Tryz.prog tab k [] [U8 c] [] (B (p c))):
  SatG Tryz.prog tab 173 [] [S s, .fn k []] [] (B ((bs s).all p)):=by
 have hbl:=bs_len s
 have hbz:=bs_size s
 refine uFN Tryz.func173 Tryz.ntmps173 ?_;intro w e X hC
 repeat ((repeat first|refine awp_seq ?_|refine awp_skip ?_|refine awp_block ?_);refine awp_region hC rfl fun K hK=>?_;simp only[go_sem,Nat.reduceAdd,Nat.reduceSub,Nat.reduceMul,Nat.reduceLT,Nat.reduceEqDiff,Nat.reduceBEq,Nat.reduceLeDiff,Int.reduceToNat,↓reduceIte,Int.reduceEq,Int.reduceLT,Int.reduceLE,Int.reduceAdd,Int.reduceSub,Int.reduceNeg,reduceCtorEq,<-hbl,<-hbz];(repeat ((with_reducible refine And.intro ?_ ?_);focus (((repeat' apply And.intro)<;>first|omega|(simp;done)|kernel_rfl))));refine hK _ ?_;clear hK K)
 refine uW ?_
 refine awp_loopW (fun i:Nat×Nat=>⟨[(0,S s),(1, .fn k []),(7,I (bs s).length),(8,I i.2)],[],i.1⟩) (fun i=>i.2<=(bs s).length/\∀j,j<i.2->p ((bs s).getD j 0)=true) (fun i=>(bs s).length - i.2) (_,0) ⟨Nat.zero_le _,fun j hj=>absurd hj (Nat.not_lt_zero _)⟩ (uKF) ?_
 rintro⟨ck,i⟩ ⟨hi,hj⟩
 simp only at hi hj
 repeat refine uA ?_
 refine uW ?_;refine condP _ rfl (fun h=>?_) (fun h=>?_)
 ·have hlt:i<(bs s).length:=by omega
  have hsat:=hk ((bs s).getD i 0)
  have hg:=bs_getD s i
  refine uA ?_
  cases c1:p ((bs s).getD i 0) with
  |true=>
   rw[c1] at hsat
   (repeat first|refine awp_seq ?_|refine awp_skip ?_|refine awp_block ?_);refine awp_region hC rfl fun K hK=>?_;simp only[go_sem,Nat.reduceAdd,Nat.reduceSub,Nat.reduceMul,Nat.reduceLT,Nat.reduceEqDiff,Nat.reduceBEq,Nat.reduceLeDiff,Int.reduceToNat,↓reduceIte,Int.reduceEq,Int.reduceLT,Int.reduceLE,Int.reduceAdd,Int.reduceSub,Int.reduceNeg,reduceCtorEq,hg,<-hbl,<-hbz]
   refine⟨by omega,?_⟩
   refine callF uTS (hsat) uTS uTS uTS ?_;refine uS ?_
   refine hK _ ?_;clear hK K
   refine uF ?_
   repeat refine uA ?_
   refine⟨(_,i+1),⟨by simp only;omega,fun j hj'=>?_⟩,by simp only;omega,uKF⟩
   by_cases hji:j=i
   ·subst hji;exact c1
   ·exact hj j (by simp only at hj';omega)
  |false=>
   rw[c1] at hsat
   (repeat first|refine awp_seq ?_|refine awp_skip ?_|refine awp_block ?_);refine awp_region hC rfl fun K hK=>?_;simp only[go_sem,Nat.reduceAdd,Nat.reduceSub,Nat.reduceMul,Nat.reduceLT,Nat.reduceEqDiff,Nat.reduceBEq,Nat.reduceLeDiff,Int.reduceToNat,↓reduceIte,Int.reduceEq,Int.reduceLT,Int.reduceLE,Int.reduceAdd,Int.reduceSub,Int.reduceNeg,reduceCtorEq,hg,<-hbl,<-hbz]
   refine⟨by omega,?_⟩
   refine callF uTS (hsat) uTS uTS uTS ?_;refine uS ?_
   refine hK _ ?_;clear hK K
   refine uT ?_
   repeat refine uA ?_
   (refine awp_ret (ret1 uRT ?_);try rfl)
   have:(bs s).all p=false:=by
    rw[List.all_eq_false]
    exact⟨_,mem_getD (d:=0) hlt,by rw[c1];simp⟩
   rw[this];rfl
 ·refine awp_exit ?_
  repeat refine uA ?_
  (refine awp_ret (ret1 uRT ?_);try rfl)
  have:(bs s).all p=true:=by
   rw[List.all_eq_true]
   intro c hc
   obtain⟨j,hj',rfl⟩:=List.getElem_of_mem hc
   have:=hj j (by omega)
   simpa[hj'] using this
  rw[this];rfl
theorem fname_sat (s:ByteArray) (hl:(bs s).length<=1000):SatG Tryz.prog tab 138 [] [S s,I 12] [] (B (nameOk s)):=by
 have hbl:=bs_len s
 have hbz:=bs_size s
 have hg:=bs_getD s 0
 have h1:=letter_sat ((bs s).getD 0 0)
 have h2:=all_sat s 174 (fun c=>letB c||digB c) hl name1_sat
 unfold nameOk
 generalize letB ((bs s).getD 0 0)=a at*
 generalize ((bs s).all fun c=>letB c||digB c)=b at*
 refine uFN Tryz.func138 Tryz.ntmps138 ?_;intro w e X hC
 refine uA ?_
 by_cases c0:1<=(bs s).length
 ·have d0:decide (1<=(bs s).length)=true:=decide_eq_true c0
  have de:decide (¬s.data.toList=[])=true:=decide_eq_true (fun h=>by rw[hbl,h] at c0;simp at c0)
  rw[d0,Bool.true_and]
  by_cases c2:(bs s).length<=12
  ·have d2:decide (((bs s).length:Int)<=12)=true:=decide_eq_true (by omega)
   have d3:decide ((bs s).length<=12)=true:=decide_eq_true c2
   rw[d3,Bool.true_and]
   (repeat first|refine awp_seq ?_|refine awp_skip ?_|refine awp_block ?_);refine awp_region hC rfl fun K hK=>?_;simp only[go_sem,Nat.reduceAdd,Nat.reduceSub,Nat.reduceMul,Nat.reduceLT,Nat.reduceEqDiff,Nat.reduceBEq,Nat.reduceLeDiff,Int.reduceToNat,↓reduceIte,Int.reduceEq,Int.reduceLT,Int.reduceLE,Int.reduceAdd,Int.reduceSub,Int.reduceNeg,reduceCtorEq,hg,<-hbl,<-hbz,de,d2]
   refine⟨by omega,?_⟩
   refine callF uTS (h1) uTS uTS uTS ?_;refine uS ?_
   cases a with
   |true=>
    first|refine uS ?_|exact uX
    refine callF uTS (h2) uTS uTS uTS ?_;refine uS ?_
    refine hK _ ?_;clear hK K
    (refine awp_ret (ret1 uRT ?_);try rfl)
   |false=>
    first|refine uS ?_|exact uX
    refine hK _ ?_;clear hK K
    (refine awp_ret (ret1 uRT ?_);try rfl)
  ·have d2:decide (((bs s).length:Int)<=12)=false:=decide_eq_false (by omega)
   have d3:decide ((bs s).length<=12)=false:=decide_eq_false c2
   rw[d3,Bool.false_and]
   (repeat first|refine awp_seq ?_|refine awp_skip ?_|refine awp_block ?_);refine awp_region hC rfl fun K hK=>?_;simp only[go_sem,Nat.reduceAdd,Nat.reduceSub,Nat.reduceMul,Nat.reduceLT,Nat.reduceEqDiff,Nat.reduceBEq,Nat.reduceLeDiff,Int.reduceToNat,↓reduceIte,Int.reduceEq,Int.reduceLT,Int.reduceLE,Int.reduceAdd,Int.reduceSub,Int.reduceNeg,reduceCtorEq,hg,<-hbl,<-hbz,de,d2]
   refine hK _ ?_;clear hK K
   (refine awp_ret (ret1 uRT ?_);try rfl)
 ·have d0:decide (1<=(bs s).length)=false:=decide_eq_false c0
  have de:decide (¬s.data.toList=[])=false:=decide_eq_false (fun h=>h (List.eq_nil_of_length_eq_zero (by omega)))
  rw[d0,Bool.false_and]
  (repeat first|refine awp_seq ?_|refine awp_skip ?_|refine awp_block ?_);refine awp_region hC rfl fun K hK=>?_;simp only[go_sem,Nat.reduceAdd,Nat.reduceSub,Nat.reduceMul,Nat.reduceLT,Nat.reduceEqDiff,Nat.reduceBEq,Nat.reduceLeDiff,Int.reduceToNat,↓reduceIte,Int.reduceEq,Int.reduceLT,Int.reduceLE,Int.reduceAdd,Int.reduceSub,Int.reduceNeg,reduceCtorEq,hg,<-hbl,<-hbz,de]
  refine hK _ ?_;clear hK K
  (refine awp_ret (ret1 uRT ?_);try rfl)
theorem name4_sat (s:ByteArray) (hl:(bs s).length<=1000):SatG Tryz.prog tab 114 [] [S s] [] (B (nameOk s)):=by
 have hbl:=bs_len s
 have hbz:=bs_size s
 have hg0:=bs_getD s 0
 have h1:=letter2_sat ((bs s).getD 0 0)
 unfold nameOk
 generalize hae:letB ((bs s).getD 0 0)=a at*
 refine uFN Tryz.func114 Tryz.ntmps114 ?_;intro w e X hC
 refine uA ?_
 refine awp_seq ?_
 refine awp_merge (fun q:Nat=>⟨[(0,S s)],[],q⟩) (fun _=>(decide (1<=(bs s).length)&&(decide ((bs s).length<=12)&&a))=true) ?_ ?_
 ·by_cases c0:1<=(bs s).length
  ·have d0:decide (1<=(bs s).length)=true:=decide_eq_true c0
   have de:decide (((bs s).length:Int)<1)=false:=decide_eq_false (by omega)
   by_cases c2:(bs s).length<=12
   ·have d2:decide ((12:Int)<(bs s).length)=false:=decide_eq_false (by omega)
    have d3:decide ((bs s).length<=12)=true:=decide_eq_true c2
    rw[d0,d3]
    (repeat first|refine awp_seq ?_|refine awp_skip ?_|refine awp_block ?_);refine awp_region hC rfl fun K hK=>?_;simp only[go_sem,Nat.reduceAdd,Nat.reduceSub,Nat.reduceMul,Nat.reduceLT,Nat.reduceEqDiff,Nat.reduceBEq,Nat.reduceLeDiff,Int.reduceToNat,↓reduceIte,Int.reduceEq,Int.reduceLT,Int.reduceLE,Int.reduceAdd,Int.reduceSub,Int.reduceNeg,reduceCtorEq,hg0,<-hbl,<-hbz,de,d2]
    refine⟨by omega,?_⟩
    refine callF uTS (h1) uTS uTS uTS ?_;refine uS ?_
    cases a with
    |true=>
     first|refine uS ?_|exact uX
     refine hK _ ?_;clear hK K
     refine uF ?_
     refine uW ?_
     refine⟨_,rfl,uKF⟩
    |false=>
     first|refine uS ?_|exact uX
     refine hK _ ?_;clear hK K
     refine uT ?_
     repeat refine uA ?_
     (refine awp_ret (ret1 uRT ?_);try rfl)
   ·have d2:decide ((12:Int)<(bs s).length)=true:=decide_eq_true (by omega)
    have d3:decide ((bs s).length<=12)=false:=decide_eq_false c2
    rw[d0,d3]
    (repeat first|refine awp_seq ?_|refine awp_skip ?_|refine awp_block ?_);refine awp_region hC rfl fun K hK=>?_;simp only[go_sem,Nat.reduceAdd,Nat.reduceSub,Nat.reduceMul,Nat.reduceLT,Nat.reduceEqDiff,Nat.reduceBEq,Nat.reduceLeDiff,Int.reduceToNat,↓reduceIte,Int.reduceEq,Int.reduceLT,Int.reduceLE,Int.reduceAdd,Int.reduceSub,Int.reduceNeg,reduceCtorEq,hg0,<-hbl,<-hbz,de,d2]
    refine hK _ ?_;clear hK K
    refine uT ?_
    repeat refine uA ?_
    (refine awp_ret (ret1 uRT ?_);try rfl)
  ·have d0:decide (1<=(bs s).length)=false:=decide_eq_false c0
   have de:decide (((bs s).length:Int)<1)=true:=decide_eq_true (by omega)
   rw[d0]
   (repeat first|refine awp_seq ?_|refine awp_skip ?_|refine awp_block ?_);refine awp_region hC rfl fun K hK=>?_;simp only[go_sem,Nat.reduceAdd,Nat.reduceSub,Nat.reduceMul,Nat.reduceLT,Nat.reduceEqDiff,Nat.reduceBEq,Nat.reduceLeDiff,Int.reduceToNat,↓reduceIte,Int.reduceEq,Int.reduceLT,Int.reduceLE,Int.reduceAdd,Int.reduceSub,Int.reduceNeg,reduceCtorEq,hg0,<-hbl,<-hbz,de]
   refine hK _ ?_;clear hK K
   refine uT ?_
   repeat refine uA ?_
   (refine awp_ret (ret1 uRT ?_);try rfl)
 rintro ck0 hok
 have hall:(decide (1<=(bs s).length)&&(decide ((bs s).length<=12)&&(a&&(bs s).all fun c=>letB c||digB c)))=(bs s).all fun c=>letB c||digB c:=by
  rw[<-Bool.and_assoc (decide ((bs s).length<=12)),<-Bool.and_assoc,hok,Bool.true_and]
 rw[hall]
 clear hall hok h1 hae
 repeat refine uA ?_
 refine uW ?_
 refine awp_loopW (fun i:Nat×Nat=>⟨[(0,S s),(3,I i.2)],[],i.1⟩) (fun i=>i.2<=(bs s).length/\∀j,j<i.2->(letB ((bs s).getD j 0)||digB ((bs s).getD j 0))=true) (fun i=>(bs s).length - i.2) (_,0) ⟨Nat.zero_le _,fun j hj=>absurd hj (Nat.not_lt_zero _)⟩ (uKF) ?_
 rintro⟨ck,i⟩ ⟨hi,hj⟩
 simp only at hi hj
 repeat ((repeat first|refine awp_seq ?_|refine awp_skip ?_|refine awp_block ?_);refine awp_region hC rfl fun K hK=>?_;simp only[go_sem,Nat.reduceAdd,Nat.reduceSub,Nat.reduceMul,Nat.reduceLT,Nat.reduceEqDiff,Nat.reduceBEq,Nat.reduceLeDiff,Int.reduceToNat,↓reduceIte,Int.reduceEq,Int.reduceLT,Int.reduceLE,Int.reduceAdd,Int.reduceSub,Int.reduceNeg,reduceCtorEq,<-hbl,<-hbz];(repeat ((with_reducible refine And.intro ?_ ?_);focus (((repeat' apply And.intro)<;>first|omega|(simp;done)|kernel_rfl))));refine hK _ ?_;clear hK K)
 refine uW ?_;refine condP _ rfl (fun h=>?_) (fun h=>?_)
 ·have hlt:i<(bs s).length:=by omega
  have h1:=letter2_sat ((bs s).getD i 0)
  have h2:=digit2_sat ((bs s).getD i 0)
  have hg:=bs_getD s i
  have hgood:(letB ((bs s).getD i 0)||digB ((bs s).getD i 0))=true->∀j,j<i+1->(letB ((bs s).getD j 0)||digB ((bs s).getD j 0))=true:=fun h j hj'=>by
   by_cases hji:j=i
   ·subst hji;exact h
   ·exact hj j (by omega)
  have hbad:(letB ((bs s).getD i 0)||digB ((bs s).getD i 0))=false->((bs s).all fun c=>letB c||digB c)=false:=fun h=>by
   rw[List.all_eq_false]
   exact⟨_,mem_getD (d:=0) hlt,by rw[h];simp⟩
  generalize letB ((bs s).getD i 0)=a at*
  generalize digB ((bs s).getD i 0)=b at*
  (repeat first|refine awp_seq ?_|refine awp_skip ?_|refine awp_block ?_);refine awp_region hC rfl fun K hK=>?_;simp only[go_sem,Nat.reduceAdd,Nat.reduceSub,Nat.reduceMul,Nat.reduceLT,Nat.reduceEqDiff,Nat.reduceBEq,Nat.reduceLeDiff,Int.reduceToNat,↓reduceIte,Int.reduceEq,Int.reduceLT,Int.reduceLE,Int.reduceAdd,Int.reduceSub,Int.reduceNeg,reduceCtorEq,hg,<-hbl,<-hbz]
  refine⟨by omega,?_⟩
  refine callF uTS (h1) uTS uTS uTS ?_;refine uS ?_
  cases a with
  |true=>
   first|refine uS ?_|exact uX
   refine hK _ ?_;clear hK K
   refine uF ?_
   repeat refine uA ?_
   refine⟨(_,i+1),⟨by simp only;omega,hgood rfl⟩,by simp only;omega,uKF⟩
  |false=>
   simp only[go_sem,Nat.reduceAdd,Nat.reduceSub,Nat.reduceMul,Nat.reduceLT,Nat.reduceEqDiff,Nat.reduceBEq,Nat.reduceLeDiff,Int.reduceToNat,↓reduceIte,Int.reduceEq,Int.reduceLT,Int.reduceLE,Int.reduceAdd,Int.reduceSub,Int.reduceNeg,reduceCtorEq,hg,<-hbl,<-hbz]
   refine⟨by omega,?_⟩
   refine callF uTS (h2) uTS uTS uTS ?_;refine uS ?_
   cases b with
   |true=>
    first|refine uS ?_|exact uX
    refine hK _ ?_;clear hK K
    refine uF ?_
    repeat refine uA ?_
    refine⟨(_,i+1),⟨by simp only;omega,hgood rfl⟩,by simp only;omega,uKF⟩
   |false=>
    first|refine uS ?_|exact uX
    refine hK _ ?_;clear hK K
    refine uT ?_
    repeat refine uA ?_
    rw[hbad rfl]
    (refine awp_ret (ret1 uRT ?_);try rfl)
 ·refine awp_exit ?_
  have:((bs s).all fun c=>letB c||digB c)=true:=by
   rw[List.all_eq_true]
   intro c hc
   obtain⟨j,hj',rfl⟩:=List.getElem_of_mem hc
   have:=hj j (by omega)
   simpa[hj'] using this
  rw[this]
  repeat refine uA ?_
  (refine awp_ret (ret1 uRT ?_);try rfl)
theorem lexits_sat (kd:Int):SatG Tryz.prog tab 176 [] [I kd] [] (I (exitsN kd)):=by
 refine uFN Tryz.func176 Tryz.ntmps176 ?_;intro w e X hC
 iterate 2 refine uA ?_
 have kds:kd=8\/kd=9\/kd=4\/kd=5\/kd=6\/(¬kd=4/\¬kd=5/\¬kd=6/\¬kd=8/\¬kd=9):=by omega
 rcases kds with rfl|rfl|rfl|rfl|rfl|⟨k4,k5,k6,k8,k9⟩
 ·repeat first|refine uC ?_|refine uA ?_
  (refine awp_ret (ret1 uRT ?_);try rfl)
 ·repeat first|refine uC ?_|refine uA ?_
  (refine awp_ret (ret1 uRT ?_);try rfl)
 ·repeat first|refine uC ?_|refine uA ?_
  (refine awp_ret (ret1 uRT ?_);try rfl)
 ·repeat first|refine uC ?_|refine uA ?_
  (refine awp_ret (ret1 uRT ?_);try rfl)
 ·repeat first|refine uC ?_|refine uA ?_
  (refine awp_ret (ret1 uRT ?_);try rfl)
 ·have d4:=decide_eq_false k4
  have d5:=decide_eq_false k5
  have d6:=decide_eq_false k6
  have d8:=decide_eq_false k8
  have d9:=decide_eq_false k9
  repeat first|refine uC ?_|refine uA1 (uI @d4 (uI @d5 (uI @d6 (uI @d8 @d9)))) ?_
  (refine awp_ret (ret1 uRT ?_);try rfl)
  rw[exitsN,if_neg (by omega),if_neg (by omega)];rfl
def lenOk (x:Nd):Bool:=if isStrip x.kd=true then(if x.kd=5 then decide (2<=x.ln) else decide (1<=x.ln))&&decide (x.ln<=8) else decide (x.ln=0)
theorem length_sat (x:Nd):SatG Tryz.prog tab 139 [] [x.av] [] (B (lenOk x)):=by
 have h1:=fstrip_sat x.kd
 unfold lenOk
 generalize isStrip x.kd=s at*
 refine uFN Tryz.func139 Tryz.ntmps139 ?_;intro w e X hC
 refine uA ?_
 refine uR ?_;intro K hK
 refine callF uTS (h1) uTS uTS uTS ?_;refine uS ?_
 cases s with
 |false=>
  first|refine uS ?_|exact uX
  refine hK _ ?_;clear hK K
  refine uT ?_
  repeat refine uA ?_
  (refine awp_ret (ret1 uRT ?_);try rfl)
 |true=>
  first|refine uS ?_|exact uX
  refine hK _ ?_;clear hK K
  refine uF ?_
  repeat refine uA ?_
  refine uW ?_;refine condP _ rfl (fun c5=>?_) (fun c5=>?_)
  ·cases c2:decide (2<=x.ln) with
   |true=>
    repeat first|refine uC ?_|refine uA1 @c2 ?_
    (refine awp_ret (ret1 uRT ?_);try rfl)
    simp only[go_sem,Nat.reduceAdd,Nat.reduceSub,Nat.reduceMul,Nat.reduceLT,Nat.reduceEqDiff,Nat.reduceBEq,Nat.reduceLeDiff,Int.reduceToNat,↓reduceIte,Int.reduceEq,Int.reduceLT,Int.reduceLE,Int.reduceAdd,Int.reduceSub,Int.reduceNeg,reduceCtorEq,if_pos c5,if_true,Bool.true_and,c2]
   |false=>
    repeat first|refine uC ?_|refine uA1 @c2 ?_
    (refine awp_ret (ret1 uRT ?_);try rfl)
    simp only[go_sem,Nat.reduceAdd,Nat.reduceSub,Nat.reduceMul,Nat.reduceLT,Nat.reduceEqDiff,Nat.reduceBEq,Nat.reduceLeDiff,Int.reduceToNat,↓reduceIte,Int.reduceEq,Int.reduceLT,Int.reduceLE,Int.reduceAdd,Int.reduceSub,Int.reduceNeg,reduceCtorEq,if_pos c5,if_true,Bool.false_and,c2]
  ·cases c2:decide (1<=x.ln) with
   |true=>
    repeat first|refine uC ?_|refine uA1 @c2 ?_
    (refine awp_ret (ret1 uRT ?_);try rfl)
    simp only[go_sem,Nat.reduceAdd,Nat.reduceSub,Nat.reduceMul,Nat.reduceLT,Nat.reduceEqDiff,Nat.reduceBEq,Nat.reduceLeDiff,Int.reduceToNat,↓reduceIte,Int.reduceEq,Int.reduceLT,Int.reduceLE,Int.reduceAdd,Int.reduceSub,Int.reduceNeg,reduceCtorEq,if_neg c5,if_true,Bool.true_and,c2]
   |false=>
    repeat first|refine uC ?_|refine uA1 @c2 ?_
    (refine awp_ret (ret1 uRT ?_);try rfl)
    simp only[go_sem,Nat.reduceAdd,Nat.reduceSub,Nat.reduceMul,Nat.reduceLT,Nat.reduceEqDiff,Nat.reduceBEq,Nat.reduceLeDiff,Int.reduceToNat,↓reduceIte,Int.reduceEq,Int.reduceLT,Int.reduceLE,Int.reduceAdd,Int.reduceSub,Int.reduceNeg,reduceCtorEq,if_neg c5,if_true,Bool.false_and,c2]
def leadK (N i:Int) (x:Nd) (k:Nat):Bool:=decide (0<=x.ex.getD k 0)&&(decide (x.ex.getD k 0<N)&&((decide (x.ex.getD k 0=i)==(decide (x.kd=5)&&decide (k=0)))&&!((x.ex.take k).any fun y=>decide (x.ex.getD k 0=y))))
def leadP (N i:Int) (x:Nd):Bool:=decide ((x.ex.length:Int)=exitsN x.kd)&&(List.range x.ex.length).all (leadK N i x)
theorem leadP_true {N i:Int} {x:Nd}:leadP N i x=true↔(x.ex.length:Int)=exitsN x.kd/\∀k,k<x.ex.length->leadK N i x k=true:=by
 simp only[leadP,Bool.and_eq_true,decide_eq_true_eq,List.all_eq_true,List.mem_range]
theorem leadP_bad {N i:Int} {x:Nd} {k:Nat} (hk:k<x.ex.length) (h:leadK N i x k=false):leadP N i x=false:=by
 cases h2:leadP N i x with
 |false=>rfl
 |true=>have:=(leadP_true.1 h2).2 k hk;rw[h] at this;cases this
theorem lleads_sat (y:Ly) (i:Nat) (hi:i<y.nodes.length) (hN:y.nodes.length<=1000) (hx:(y.nodes.getD i default).ex.length<=1000):
  SatG Tryz.prog tab 140 [] [y.av,I i] [] (B (leadP y.nodes.length i (y.nodes.getD i default))):=by
 refine uFN Tryz.func140 Tryz.ntmps140 ?_;intro w e X hC
 generalize e1:y.nodes.getD i default=x at*
 have hxs:=lexits_sat x.kd
 refine uA ?_
 repeat refine uA1 (uI (nds_getD hi) @e1) ?_
 refine awp_seq ?_
 refine awp_merge (fun q:Nat=>⟨[(1,I i),(2, .ptO 102 1 0 0 0),(5, .ptO 105 8 0 0 0)],(105,some (8, .box [S x.nm,I x.kd,I x.ln,I x.zn,IS x.ex]))::(102,some (1, .box [.sl (nds y.nodes) false, .sl (t3s y.devs) false]))::[],q⟩) (fun _=>(x.ex.length:Int)=exitsN x.kd) ?_ ?_
 ·refine uE ?_;intro K hK
  refine callF uTS (hxs) uTS uTS uTS ?_;refine uS ?_
  refine uH ?_
  refine hK _ ?_;clear hK K
  refine uW ?_;refine condP _ rfl (fun c0=>?_) (fun c0=>?_)
  ·repeat refine uA ?_
   (refine awp_ret (ret1 uRT ?_);try rfl)
   have:leadP y.nodes.length i x=false:=by simp[leadP,c0]
   rw[this];rfl
  ·refine uW ?_
   refine⟨_,Decidable.byContradiction c0,uKF⟩
 rintro ck0 hlen
 clear hxs
 repeat refine uA ?_
 refine uW ?_
 refine awp_loopW (fun q:Nat×Nat=>⟨[(1,I i),(2, .ptO 102 1 0 0 0),(5, .ptO 105 8 0 0 0),(22,IS x.ex),(23,I x.ex.length),(24,I q.2)],(105,some (8, .box [S x.nm,I x.kd,I x.ln,I x.zn,IS x.ex]))::(102,some (1, .box [.sl (nds y.nodes) false, .sl (t3s y.devs) false]))::[],q.1⟩) (fun q=>q.2<=x.ex.length/\∀j,j<q.2->leadK y.nodes.length i x j=true) (fun q=>x.ex.length - q.2) (_,0) ⟨Nat.zero_le _,fun j hj=>absurd hj (Nat.not_lt_zero _)⟩ (uKF) ?_
 rintro⟨ck,k⟩ ⟨hk,hj⟩
 simp only at hk hj
 repeat refine uA ?_
 refine uW ?_;refine condP _ rfl (fun h=>?_) (fun h=>?_)
 ·have hlt:k<x.ex.length:=by omega
  have hbad:=leadP_bad (N:=y.nodes.length) (i:=i) hlt
  obtain⟨lk,hkE⟩:∃lk,lk=leadK y.nodes.length i x k:=⟨_,rfl⟩
  rw[<-hkE] at hbad
  have hct:=containsI_sat (x.ex.take k) (x.ex.getD k 0) (by rw[List.length_take];omega)
  have dk:decide ((k:Int)=0)=decide (k=0):=by
   by_cases h0:k=0
   ·subst h0;rfl
   ·rw[decide_eq_false h0];exact decide_eq_false (by omega)
  have htk:(x.ex.take k).length=k:=by rw[List.length_take];omega
  have hgood:leadK y.nodes.length i x k=true->∀j,j<k+1->leadK y.nodes.length i x j=true:=fun h j hj'=>by
   by_cases hji:j=k
   ·subst hji;exact h
   ·exact hj j (by omega)
  rw[<-hkE] at hgood
  unfold leadK at hkE
  have bb1:(true==true)=true:=rfl
  have bb2:(true==false)=false:=rfl
  have bb3:(false==true)=false:=rfl
  have bb4:(false==false)=true:=rfl
  generalize ((x.ex.take k).any fun y=>decide (x.ex.getD k 0=y))=v at*
  generalize e2:x.ex.getD k 0=e at*
  refine uA1 (uI (ints_getD hlt) @e2) ?_
  cases d5:decide (x.kd=5) with
  |true=>
   cases d0':decide (k=0) with
   |true=>
    have d0:=dk.trans d0'
    cases dx:decide (e=(i:Int)) with
    |true=>
     refine uA1 (uI @d5 @d0) ?_
     cases c1:decide (e<0) with
     |true=>
      have q1:decide (0<=e)=false:=decide_eq_false (by have:=of_decide_eq_true c1;omega)
      rw[q1,Bool.false_and] at hkE
      refine uR1 @c1 ?_;intro K hK
      refine uH ?_
      refine hK _ ?_;clear hK K
      refine uT ?_
      repeat refine uA ?_
      rw[hbad hkE]
      (refine awp_ret (ret1 uRT ?_);try rfl)
     |false=>
      have q1:decide (0<=e)=true:=decide_eq_true (by have:=of_decide_eq_false c1;omega)
      rw[q1,Bool.true_and] at hkE
      cases c2:decide ((y.nodes.length:Int)<=e) with
      |true=>
       have q2:decide (e<(y.nodes.length:Int))=false:=decide_eq_false (by have:=of_decide_eq_true c2;omega)
       rw[q2,Bool.false_and] at hkE
       refine uR1 (uI @c1 @c2) ?_;intro K hK
       refine uH ?_
       refine hK _ ?_;clear hK K
       refine uT ?_
       repeat refine uA ?_
       rw[hbad hkE]
       (refine awp_ret (ret1 uRT ?_);try rfl)
      |false=>
       have q2:decide (e<(y.nodes.length:Int))=true:=decide_eq_true (by have:=of_decide_eq_false c2;omega)
       rw[q2,Bool.true_and] at hkE
       simp[d5,d0',dx] at hkE
       refine uR1 (uI @c1 (uI @c2 (uI @dx (uI @bb1 (uI @bb2 (uI @bb3 (uI @bb4 (uI @ints_take @htk)))))))) ?_;intro K hK
       refine⟨by omega,?_⟩
       refine callF uTS (hct) uTS uTS uTS ?_;refine uS ?_
       refine hK _ ?_;clear hK K
       cases v with
       |true=>
        refine uT ?_
        repeat refine uA ?_
        rw[hbad (by simpa using hkE)]
        (refine awp_ret (ret1 uRT ?_);try rfl)
       |false=>
        refine uF ?_
        repeat refine uA ?_
        refine⟨(_,k+1),⟨by simp only;omega,hgood (by simpa using hkE)⟩,by simp only;omega,uKF⟩
    |false=>
     refine uA1 (uI @d5 @d0) ?_
     cases c1:decide (e<0) with
     |true=>
      have q1:decide (0<=e)=false:=decide_eq_false (by have:=of_decide_eq_true c1;omega)
      rw[q1,Bool.false_and] at hkE
      refine uR1 @c1 ?_;intro K hK
      refine uH ?_
      refine hK _ ?_;clear hK K
      refine uT ?_
      repeat refine uA ?_
      rw[hbad hkE]
      (refine awp_ret (ret1 uRT ?_);try rfl)
     |false=>
      have q1:decide (0<=e)=true:=decide_eq_true (by have:=of_decide_eq_false c1;omega)
      rw[q1,Bool.true_and] at hkE
      cases c2:decide ((y.nodes.length:Int)<=e) with
      |true=>
       have q2:decide (e<(y.nodes.length:Int))=false:=decide_eq_false (by have:=of_decide_eq_true c2;omega)
       rw[q2,Bool.false_and] at hkE
       refine uR1 (uI @c1 @c2) ?_;intro K hK
       refine uH ?_
       refine hK _ ?_;clear hK K
       refine uT ?_
       repeat refine uA ?_
       rw[hbad hkE]
       (refine awp_ret (ret1 uRT ?_);try rfl)
      |false=>
       have q2:decide (e<(y.nodes.length:Int))=true:=decide_eq_true (by have:=of_decide_eq_false c2;omega)
       rw[q2,Bool.true_and] at hkE
       simp[d5,d0',dx] at hkE
       refine uR1 (uI @c1 (uI @c2 (uI @dx (uI @bb1 (uI @bb2 (uI @bb3 @bb4)))))) ?_;intro K hK
       refine uH ?_
       refine hK _ ?_;clear hK K
       refine uT ?_
       repeat refine uA ?_
       rw[hbad hkE]
       (refine awp_ret (ret1 uRT ?_);try rfl)
   |false=>
    have d0:=dk.trans d0'
    cases dx:decide (e=(i:Int)) with
    |true=>
     refine uA1 (uI @d5 @d0) ?_
     cases c1:decide (e<0) with
     |true=>
      have q1:decide (0<=e)=false:=decide_eq_false (by have:=of_decide_eq_true c1;omega)
      rw[q1,Bool.false_and] at hkE
      refine uR1 @c1 ?_;intro K hK
      refine uH ?_
      refine hK _ ?_;clear hK K
      refine uT ?_
      repeat refine uA ?_
      rw[hbad hkE]
      (refine awp_ret (ret1 uRT ?_);try rfl)
     |false=>
      have q1:decide (0<=e)=true:=decide_eq_true (by have:=of_decide_eq_false c1;omega)
      rw[q1,Bool.true_and] at hkE
      cases c2:decide ((y.nodes.length:Int)<=e) with
      |true=>
       have q2:decide (e<(y.nodes.length:Int))=false:=decide_eq_false (by have:=of_decide_eq_true c2;omega)
       rw[q2,Bool.false_and] at hkE
       refine uR1 (uI @c1 @c2) ?_;intro K hK
       refine uH ?_
       refine hK _ ?_;clear hK K
       refine uT ?_
       repeat refine uA ?_
       rw[hbad hkE]
       (refine awp_ret (ret1 uRT ?_);try rfl)
      |false=>
       have q2:decide (e<(y.nodes.length:Int))=true:=decide_eq_true (by have:=of_decide_eq_false c2;omega)
       rw[q2,Bool.true_and] at hkE
       simp[d5,d0',dx] at hkE
       refine uR1 (uI @c1 (uI @c2 (uI @dx (uI @bb1 (uI @bb2 (uI @bb3 @bb4)))))) ?_;intro K hK
       refine uH ?_
       refine hK _ ?_;clear hK K
       refine uT ?_
       repeat refine uA ?_
       rw[hbad hkE]
       (refine awp_ret (ret1 uRT ?_);try rfl)
    |false=>
     refine uA1 (uI @d5 @d0) ?_
     cases c1:decide (e<0) with
     |true=>
      have q1:decide (0<=e)=false:=decide_eq_false (by have:=of_decide_eq_true c1;omega)
      rw[q1,Bool.false_and] at hkE
      refine uR1 @c1 ?_;intro K hK
      refine uH ?_
      refine hK _ ?_;clear hK K
      refine uT ?_
      repeat refine uA ?_
      rw[hbad hkE]
      (refine awp_ret (ret1 uRT ?_);try rfl)
     |false=>
      have q1:decide (0<=e)=true:=decide_eq_true (by have:=of_decide_eq_false c1;omega)
      rw[q1,Bool.true_and] at hkE
      cases c2:decide ((y.nodes.length:Int)<=e) with
      |true=>
       have q2:decide (e<(y.nodes.length:Int))=false:=decide_eq_false (by have:=of_decide_eq_true c2;omega)
       rw[q2,Bool.false_and] at hkE
       refine uR1 (uI @c1 @c2) ?_;intro K hK
       refine uH ?_
       refine hK _ ?_;clear hK K
       refine uT ?_
       repeat refine uA ?_
       rw[hbad hkE]
       (refine awp_ret (ret1 uRT ?_);try rfl)
      |false=>
       have q2:decide (e<(y.nodes.length:Int))=true:=decide_eq_true (by have:=of_decide_eq_false c2;omega)
       rw[q2,Bool.true_and] at hkE
       simp[d5,d0',dx] at hkE
       refine uR1 (uI @c1 (uI @c2 (uI @dx (uI @bb1 (uI @bb2 (uI @bb3 (uI @bb4 (uI @ints_take @htk)))))))) ?_;intro K hK
       refine⟨by omega,?_⟩
       refine callF uTS (hct) uTS uTS uTS ?_;refine uS ?_
       refine hK _ ?_;clear hK K
       cases v with
       |true=>
        refine uT ?_
        repeat refine uA ?_
        rw[hbad (by simpa using hkE)]
        (refine awp_ret (ret1 uRT ?_);try rfl)
       |false=>
        refine uF ?_
        repeat refine uA ?_
        refine⟨(_,k+1),⟨by simp only;omega,hgood (by simpa using hkE)⟩,by simp only;omega,uKF⟩
  |false=>
   have d0:=trivial
   cases dx:decide (e=(i:Int)) with
   |true=>
    refine uA1 @d5 ?_
    cases c1:decide (e<0) with
    |true=>
     have q1:decide (0<=e)=false:=decide_eq_false (by have:=of_decide_eq_true c1;omega)
     rw[q1,Bool.false_and] at hkE
     refine uR1 @c1 ?_;intro K hK
     refine uH ?_
     refine hK _ ?_;clear hK K
     refine uT ?_
     repeat refine uA ?_
     rw[hbad hkE]
     (refine awp_ret (ret1 uRT ?_);try rfl)
    |false=>
     have q1:decide (0<=e)=true:=decide_eq_true (by have:=of_decide_eq_false c1;omega)
     rw[q1,Bool.true_and] at hkE
     cases c2:decide ((y.nodes.length:Int)<=e) with
     |true=>
      have q2:decide (e<(y.nodes.length:Int))=false:=decide_eq_false (by have:=of_decide_eq_true c2;omega)
      rw[q2,Bool.false_and] at hkE
      refine uR1 (uI @c1 @c2) ?_;intro K hK
      refine uH ?_
      refine hK _ ?_;clear hK K
      refine uT ?_
      repeat refine uA ?_
      rw[hbad hkE]
      (refine awp_ret (ret1 uRT ?_);try rfl)
     |false=>
      have q2:decide (e<(y.nodes.length:Int))=true:=decide_eq_true (by have:=of_decide_eq_false c2;omega)
      rw[q2,Bool.true_and] at hkE
      simp[d5,dx] at hkE
      refine uR1 (uI @c1 (uI @c2 (uI @dx (uI @bb1 (uI @bb2 (uI @bb3 @bb4)))))) ?_;intro K hK
      refine uH ?_
      refine hK _ ?_;clear hK K
      refine uT ?_
      repeat refine uA ?_
      rw[hbad hkE]
      (refine awp_ret (ret1 uRT ?_);try rfl)
   |false=>
    refine uA1 @d5 ?_
    cases c1:decide (e<0) with
    |true=>
     have q1:decide (0<=e)=false:=decide_eq_false (by have:=of_decide_eq_true c1;omega)
     rw[q1,Bool.false_and] at hkE
     refine uR1 @c1 ?_;intro K hK
     refine uH ?_
     refine hK _ ?_;clear hK K
     refine uT ?_
     repeat refine uA ?_
     rw[hbad hkE]
     (refine awp_ret (ret1 uRT ?_);try rfl)
    |false=>
     have q1:decide (0<=e)=true:=decide_eq_true (by have:=of_decide_eq_false c1;omega)
     rw[q1,Bool.true_and] at hkE
     cases c2:decide ((y.nodes.length:Int)<=e) with
     |true=>
      have q2:decide (e<(y.nodes.length:Int))=false:=decide_eq_false (by have:=of_decide_eq_true c2;omega)
      rw[q2,Bool.false_and] at hkE
      refine uR1 (uI @c1 @c2) ?_;intro K hK
      refine uH ?_
      refine hK _ ?_;clear hK K
      refine uT ?_
      repeat refine uA ?_
      rw[hbad hkE]
      (refine awp_ret (ret1 uRT ?_);try rfl)
     |false=>
      have q2:decide (e<(y.nodes.length:Int))=true:=decide_eq_true (by have:=of_decide_eq_false c2;omega)
      rw[q2,Bool.true_and] at hkE
      simp[d5,dx] at hkE
      refine uR1 (uI @c1 (uI @c2 (uI @dx (uI @bb1 (uI @bb2 (uI @bb3 (uI @bb4 (uI @ints_take @htk)))))))) ?_;intro K hK
      refine⟨by omega,?_⟩
      refine callF uTS (hct) uTS uTS uTS ?_;refine uS ?_
      refine hK _ ?_;clear hK K
      cases v with
      |true=>
       refine uT ?_
       repeat refine uA ?_
       rw[hbad (by simpa using hkE)]
       (refine awp_ret (ret1 uRT ?_);try rfl)
      |false=>
       refine uF ?_
       repeat refine uA ?_
       refine⟨(_,k+1),⟨by simp only;omega,hgood (by simpa using hkE)⟩,by simp only;omega,uKF⟩
 ·refine awp_exit ?_
  have:leadP y.nodes.length i x=true:=leadP_true.2 ⟨hlen,fun j hj'=>hj j (by omega)⟩
  rw[this]
  repeat refine uA ?_
  (refine awp_ret (ret1 uRT ?_);try rfl)
def nodeE (N i:Int) (x:Nd):Int:=
 if nameOk x.nm=false then 3 else if x.kd<1\/9<x.kd then 4 else if lenOk x=true/\(x.zn=0\/x.zn=1)/\leadP N i x=true then 0 else 1
theorem lnode_sat (y:Ly) (i:Nat) (hi:i<y.nodes.length) (hN:y.nodes.length<=1000) (hx:(y.nodes.getD i default).ex.length<=1000) (hnm:(bs (y.nodes.getD i default).nm).length<=1000):
  SatG Tryz.prog tab 102 [] [y.av,I i] [] (I (nodeE y.nodes.length i (y.nodes.getD i default))):=by
 have h1:=fname_sat _ hnm
 have h2:=length_sat (y.nodes.getD i default)
 have h3:=lleads_sat y i hi hN hx
 generalize e1:y.nodes.getD i default=x at*
 have hE:nodeE y.nodes.length i x=_:=nodeE.eq_1 _ _ _
 generalize nodeE y.nodes.length i x=r at*
 generalize nameOk x.nm=a at*
 generalize lenOk x=l at*
 generalize leadP y.nodes.length i x=p at*
 refine uFN Tryz.func102 Tryz.ntmps102 ?_;intro w e X hC
 refine uA ?_
 repeat refine uA1 (uI (nds_getD hi) @e1) ?_
 refine uR ?_;intro K hK
 refine callF uTS (h1) uTS uTS uTS ?_;refine uS ?_
 refine hK _ ?_;clear hK K
 cases a with
 |false=>
  refine uT ?_
  repeat refine uA ?_
  rw[if_pos rfl] at hE
  subst hE
  (refine awp_ret (ret1 uRT ?_);try rfl)
 |true=>
  rw[if_neg (by decide)] at hE
  refine uF ?_
  cases d1:decide (x.kd<1) with
  |true=>
   rw[if_pos (.inl (of_decide_eq_true d1))] at hE
   subst hE
   refine uR1 @d1 ?_;intro K hK
   refine hK _ ?_;clear hK K
   refine uT ?_
   repeat refine uA ?_
   (refine awp_ret (ret1 uRT ?_);try rfl)
  |false=>
   cases d2:decide (9<x.kd) with
   |true=>
    rw[if_pos (.inr (of_decide_eq_true d2))] at hE
    subst hE
    refine uR1 (uI @d1 @d2) ?_;intro K hK
    refine hK _ ?_;clear hK K
    refine uT ?_
    repeat refine uA ?_
    (refine awp_ret (ret1 uRT ?_);try rfl)
   |false=>
    rw[if_neg (by have:=of_decide_eq_false d1;have:=of_decide_eq_false d2;omega)] at hE
    refine uR1 (uI @d1 @d2) ?_;intro K hK
    refine hK _ ?_;clear hK K
    refine uF ?_
    refine uR ?_;intro K hK
    refine callF uTS (h2) uTS uTS uTS ?_;refine uS ?_
    cases l with
    |false=>
     rw[if_neg (by simp)] at hE
     subst hE
     first|refine uS ?_|exact uX
     refine hK _ ?_;clear hK K
     refine uT ?_
     repeat refine uA ?_
     (refine awp_ret (ret1 uRT ?_);try rfl)
    |true=>
     first|refine uS ?_|exact uX
     cases z0:decide (¬x.zn=0) with
     |false=>
      have q0:x.zn=0:=Decidable.byContradiction (of_decide_eq_false z0)
      first|refine uS1 @z0 ?_|exact uX1 @z0
      refine callF uTS (h3) uTS uTS uTS ?_;refine uS ?_
      cases p with
      |true=>
       rw[if_pos ⟨rfl, .inl q0,rfl⟩] at hE
       subst hE
       first|refine uS ?_|exact uX
       refine hK _ ?_;clear hK K
       refine uF ?_
       repeat refine uA ?_
       (refine awp_ret (ret1 uRT ?_);try rfl)
      |false=>
       rw[if_neg (by simp)] at hE
       subst hE
       first|refine uS ?_|exact uX
       refine hK _ ?_;clear hK K
       refine uT ?_
       repeat refine uA ?_
       (refine awp_ret (ret1 uRT ?_);try rfl)
     |true=>
      have q0:¬x.zn=0:=of_decide_eq_true z0
      cases z1:decide (¬x.zn=1) with
      |true=>
       have q1:¬x.zn=1:=of_decide_eq_true z1
       rw[if_neg (fun h=>h.2.1.elim q0 q1)] at hE
       subst hE
       first|refine uS1 (uI @z0 @z1) ?_|exact uX1 (uI @z0 @z1)
       refine hK _ ?_;clear hK K
       refine uT ?_
       repeat refine uA ?_
       (refine awp_ret (ret1 uRT ?_);try rfl)
      |false=>
       have q1:x.zn=1:=Decidable.byContradiction (of_decide_eq_false z1)
       first|refine uS1 (uI @z0 @z1) ?_|exact uX1 (uI @z0 @z1)
       refine callF uTS (h3) uTS uTS uTS ?_;refine uS ?_
       cases p with
       |true=>
        rw[if_pos ⟨rfl, .inr q1,rfl⟩] at hE
        subst hE
        first|refine uS ?_|exact uX
        refine hK _ ?_;clear hK K
        refine uF ?_
        repeat refine uA ?_
        (refine awp_ret (ret1 uRT ?_);try rfl)
       |false=>
        rw[if_neg (by simp)] at hE
        subst hE
        first|refine uS ?_|exact uX
        refine hK _ ?_;clear hK K
        refine uT ?_
        repeat refine uA ?_
        (refine awp_ret (ret1 uRT ?_);try rfl)
theorem ltotal_sat (y:Ly) (hy:y.nodes.length<=1000) (hx:∀i,i<y.nodes.length->0<=(y.nodes.getD i default).ln/\(y.nodes.getD i default).ln<=1000):
  SatG Tryz.prog tab 97 [] [y.av] [] (I (total y.nodes)):=by
 refine uFN Tryz.func97 Tryz.ntmps97 ?_;intro w e X hC
 repeat refine uA ?_
 refine uW ?_
 refine awp_loopW (fun i:Nat×Nat=>⟨[(1, .ptO 101 1 0 0 0),(3,I (totL y.nodes i.2)),(7, .sl (nds y.nodes) false),(8,I y.nodes.length),(9,I i.2)],(101,some (1, .box [.sl (nds y.nodes) false, .sl (t3s y.devs) false]))::[],i.1⟩) (fun i=>i.2<=y.nodes.length) (fun i=>y.nodes.length - i.2) (_,0) (Nat.zero_le _) (.of (Nat.le_refl _) (by repeat first|exact HOk.nil|refine uHN ?_|(refine HOk.cons ?_ ?_;(focus (simp only[go_sem,Nat.reduceAdd,Nat.reduceSub,Nat.reduceMul,Nat.reduceLT,Nat.reduceEqDiff,Nat.reduceBEq,Nat.reduceLeDiff,Int.reduceToNat,↓reduceIte,Int.reduceEq,Int.reduceLT,Int.reduceLE,Int.reduceAdd,Int.reduceSub,Int.reduceNeg,reduceCtorEq,totL];done)))) (by repeat first|exact WOk.nil|refine uWN ?_|(refine WOk.cons ?_ ?_;(focus (simp only[go_sem,Nat.reduceAdd,Nat.reduceSub,Nat.reduceMul,Nat.reduceLT,Nat.reduceEqDiff,Nat.reduceBEq,Nat.reduceLeDiff,Int.reduceToNat,↓reduceIte,Int.reduceEq,Int.reduceLT,Int.reduceLE,Int.reduceAdd,Int.reduceSub,Int.reduceNeg,reduceCtorEq,totL];done))))) ?_
 rintro⟨ck,i⟩ hi
 simp only at hi
 repeat refine uA ?_
 refine uW ?_;refine condP _ rfl (fun h=>?_) (fun h=>?_)
 ·have hn:i<y.nodes.length:=by omega
  have hb:=totL_le (fun j hj=>hx j (by omega)) i hi
  have hxi:=hx i hn
  have e1:totL y.nodes (i+1)=totL y.nodes i+(y.nodes.getD i default).ln:=rfl
  generalize totL y.nodes i=t at*
  repeat refine uA1 (nds_getD hn) ?_
  refine⟨(_,i+1),by simp only;omega,by simp only;omega, .of (Nat.le_refl _) uHF (uWF1 @e1)⟩
 ·refine awp_exit ?_
  have hi':i=y.nodes.length:=by omega
  subst hi'
  repeat refine uA ?_
  (refine awp_ret (ret1 uRT ?_);try rfl)
theorem find1_sat (x:Nd) (nm:ByteArray):SatG Tryz.prog tab 177 [] [x.av, .ptI [S nm]] [] (B (decide (x.nm=nm))):=by
 refine uFN Tryz.func177 Tryz.ntmps177 ?_;intro w e X hC
 repeat refine uA ?_
 (refine awp_ret (ret1 uRT ?_);try rfl)
 have:decide (x.nm.data.toList=nm.data.toList)=decide (x.nm=nm):=by
  by_cases h:x.nm=nm
  ·rw[h];simp
  ·rw[decide_eq_false h];exact decide_eq_false fun h2=>h (ba_eq h2)
 rw[<-this]
 rfl
theorem findN_idx (xs:List Nd) (nm:ByteArray):findN xs nm=idxR (fun x=>decide (x.nm=nm)) xs:=rfl
theorem lfind_sat (y:Ly) (nm:ByteArray) (hy:y.nodes.length<=1000):SatG Tryz.prog tab 141 [] [y.av,S nm] [] (I (findN y.nodes nm)):=by
 rw[findN_idx]
 refine uFN Tryz.func141 Tryz.ntmps141 ?_;intro w e X hC
 refine uA ?_
 refine uR ?_;intro K hK
 refine callP uTS ((ixfN_sat y.nodes 177 [S nm] (fun x=>decide (x.nm=nm)) hy (fun x _=>find1_sat x nm))) uTS uTS uTS ?_;refine uS ?_
 refine hK _ ?_;clear hK K
 (refine awp_ret (ret1 uRT ?_);try rfl)
def namedB (xs:List Nd):Bool:=(List.range xs.length).all fun i=>decide (findN xs (xs.getD i default).nm=(i:Int))
theorem range_all_true {n:Nat} {p:Nat->Bool} (h:∀i,i<n->p i=true):(List.range n).all p=true:=by
 rw[List.all_eq_true];intro i hi;exact h i (List.mem_range.1 hi)
theorem range_all_false {n i:Nat} {p:Nat->Bool} (hi:i<n) (h:p i=false):(List.range n).all p=false:=by
 rw[List.all_eq_false];exact⟨i,List.mem_range.2 hi,by rw[h];simp⟩
theorem lnamed_sat (y:Ly) (hy:y.nodes.length<=1000):SatG Tryz.prog tab 103 [] [y.av] [] (B (namedB y.nodes)):=by
 refine uFN Tryz.func103 Tryz.ntmps103 ?_;intro w e X hC
 repeat refine uA ?_
 refine uW ?_
 refine awp_loopW (fun i:Nat×Nat=>⟨[(1, .ptO 101 1 0 0 0),(6, .sl (nds y.nodes) false),(7,I y.nodes.length),(8,I i.2)],(101,some (1, .box [.sl (nds y.nodes) false, .sl (t3s y.devs) false]))::[],i.1⟩) (fun i=>i.2<=y.nodes.length/\∀j,j<i.2->decide (findN y.nodes (y.nodes.getD j default).nm=(j:Int))=true) (fun i=>y.nodes.length - i.2) (_,0) ⟨Nat.zero_le _,fun j hj=>absurd hj (Nat.not_lt_zero _)⟩ (uKF) ?_
 rintro⟨ck,i⟩ ⟨hi,hj⟩
 simp only at hi hj
 repeat refine uA ?_
 refine uW ?_;refine condP _ rfl (fun h=>?_) (fun h=>?_)
 ·have hn:i<y.nodes.length:=by omega
  have hsat:=lfind_sat y (y.nodes.getD i default).nm hy
  have hbad:=range_all_false (p:=fun i=>decide (findN y.nodes (y.nodes.getD i default).nm=(i:Int))) hn
  have hgood:decide (findN y.nodes (y.nodes.getD i default).nm=(i:Int))=true->∀j,j<i+1->decide (findN y.nodes (y.nodes.getD j default).nm=(j:Int))=true:=fun h j hj'=>by
   by_cases hji:j=i
   ·subst hji;exact h
   ·exact hj j (by omega)
  try simp only at hbad
  generalize e1:y.nodes.getD i default=x at*
  generalize findN y.nodes x.nm=f at*
  refine uA1 (uI (nds_getD hn) @e1) ?_
  refine uR ?_;intro K hK
  refine callP uTS (hsat) uTS uTS uTS ?_;refine uS ?_
  refine hK _ ?_;clear hK K
  refine uW ?_;refine condP _ rfl (fun c1=>?_) (fun c1=>?_)
  ·repeat refine uA ?_
   (refine awp_ret (ret1 uRT ?_);try rfl)
   rw[show namedB y.nodes=false from hbad (decide_eq_false c1)];rfl
  ·repeat refine uA ?_
   refine⟨(_,i+1),⟨by simp only;omega,hgood (decide_eq_true (Decidable.byContradiction c1))⟩,by simp only;omega,uKF⟩
 ·refine awp_exit ?_
  have:namedB y.nodes=true:=range_all_true fun j hj'=>hj j (by omega)
  rw[this]
  repeat refine uA ?_
  (refine awp_ret (ret1 uRT ?_);try rfl)
def zoneA (x:Nd):Bool:=if x.kd=1\/x.kd=3\/x.kd=6 then decide (x.zn=0) else if x.kd=7\/x.kd=8 then decide (x.zn=1) else true
def zoneW (x:Nd) (k:Nat):Int:=if x.kd=6/\k=1 then 1 else x.zn
def zoneK (xs:List Nd) (x:Nd) (k:Nat):Bool:=!(decide ((xs.getD (x.ex.getD k 0).toNat default).kd=1)||decide (¬(xs.getD (x.ex.getD k 0).toNat default).zn=zoneW x k))
def zoneB (xs:List Nd) (x:Nd):Bool:=zoneA x&&(List.range x.ex.length).all (zoneK xs x)
theorem lzoned_sat (y:Ly) (i:Nat) (hi:i<y.nodes.length) (hN:y.nodes.length<=1000) (hx:(y.nodes.getD i default).ex.length<=1000) (hr:∀k,k<(y.nodes.getD i default).ex.length->0<=(y.nodes.getD i default).ex.getD k 0/\(y.nodes.getD i default).ex.getD k 0<y.nodes.length):
  SatG Tryz.prog tab 104 [] [y.av,I i] [] (B (zoneB y.nodes (y.nodes.getD i default))):=by
 refine uFN Tryz.func104 Tryz.ntmps104 ?_;intro w e X hC
 generalize e1:y.nodes.getD i default=x at*
 refine uA ?_
 refine uR1 (uI (nds_getD hi) @e1) ?_;intro K hK
 refine uH ?_
 refine hK _ ?_;clear hK K
 refine awp_seq ?_
 refine awp_merge (fun q:Nat=>⟨[(1,I i),(2, .ptO 102 1 0 0 0),(5, .ptO 105 8 0 0 0)],(105,some (8, .box [S x.nm,I x.kd,I x.ln,I x.zn,IS x.ex]))::(102,some (1, .box [.sl (nds y.nodes) false, .sl (t3s y.devs) false]))::[],q⟩) (fun _=>zoneA x=true) ?_ ?_
 ·refine uR ?_;intro K hK
  refine hK _ ?_;clear hK K
  have kds:x.kd=1\/x.kd=3\/x.kd=6\/x.kd=7\/x.kd=8\/(¬x.kd=1/\¬x.kd=3/\¬x.kd=6/\¬x.kd=7/\¬x.kd=8):=by omega
  rcases kds with c|c|c|c|c|⟨n1,n3,n6,n7,n8⟩
  ·have d1:decide (x.kd=1)=true:=decide_eq_true c
   have hA:zoneA x=decide (x.zn=0):=by simp[zoneA,c]
   cases z0:decide (¬x.zn=0) with
   |true=>
    repeat first|refine uC ?_|refine uA1 (uI @d1 @z0) ?_
    have:zoneB y.nodes x=false:=by rw[zoneB,hA,decide_eq_false (of_decide_eq_true z0),Bool.false_and]
    rw[this]
    (refine awp_ret (ret1 uRT ?_);try rfl)
   |false=>
    repeat first|refine uC ?_|refine uA1 (uI @d1 @z0) ?_
    refine uW ?_
    refine⟨_,by rw[hA];exact decide_eq_true (Decidable.byContradiction (of_decide_eq_false z0)),uKF⟩
  ·have d1:decide (x.kd=1)=false:=decide_eq_false (by omega)
   have d3:decide (x.kd=3)=true:=decide_eq_true c
   have hA:zoneA x=decide (x.zn=0):=by simp[zoneA,c]
   cases z0:decide (¬x.zn=0) with
   |true=>
    repeat first|refine uC ?_|refine uA1 (uI @d1 (uI @d3 @z0)) ?_
    have:zoneB y.nodes x=false:=by rw[zoneB,hA,decide_eq_false (of_decide_eq_true z0),Bool.false_and]
    rw[this]
    (refine awp_ret (ret1 uRT ?_);try rfl)
   |false=>
    repeat first|refine uC ?_|refine uA1 (uI @d1 (uI @d3 @z0)) ?_
    refine uW ?_
    refine⟨_,by rw[hA];exact decide_eq_true (Decidable.byContradiction (of_decide_eq_false z0)),uKF⟩
  ·have d1:decide (x.kd=1)=false:=decide_eq_false (by omega)
   have d3:decide (x.kd=3)=false:=decide_eq_false (by omega)
   have d6:decide (x.kd=6)=true:=decide_eq_true c
   have hA:zoneA x=decide (x.zn=0):=by simp[zoneA,c]
   cases z0:decide (¬x.zn=0) with
   |true=>
    repeat first|refine uC ?_|refine uA1 (uI @d1 (uI @d3 (uI @d6 @z0))) ?_
    have:zoneB y.nodes x=false:=by rw[zoneB,hA,decide_eq_false (of_decide_eq_true z0),Bool.false_and]
    rw[this]
    (refine awp_ret (ret1 uRT ?_);try rfl)
   |false=>
    repeat first|refine uC ?_|refine uA1 (uI @d1 (uI @d3 (uI @d6 @z0))) ?_
    refine uW ?_
    refine⟨_,by rw[hA];exact decide_eq_true (Decidable.byContradiction (of_decide_eq_false z0)),uKF⟩
  ·have d1:decide (x.kd=1)=false:=decide_eq_false (by omega)
   have d3:decide (x.kd=3)=false:=decide_eq_false (by omega)
   have d6:decide (x.kd=6)=false:=decide_eq_false (by omega)
   have d7:decide (x.kd=7)=true:=decide_eq_true c
   have hA:zoneA x=decide (x.zn=1):=by simp[zoneA,c]
   cases z0:decide (¬x.zn=1) with
   |true=>
    repeat first|refine uC ?_|refine uA1 (uI @d1 (uI @d3 (uI @d6 (uI @d7 @z0)))) ?_
    have:zoneB y.nodes x=false:=by rw[zoneB,hA,decide_eq_false (of_decide_eq_true z0),Bool.false_and]
    rw[this]
    (refine awp_ret (ret1 uRT ?_);try rfl)
   |false=>
    repeat first|refine uC ?_|refine uA1 (uI @d1 (uI @d3 (uI @d6 (uI @d7 @z0)))) ?_
    refine uW ?_
    refine⟨_,by rw[hA];exact decide_eq_true (Decidable.byContradiction (of_decide_eq_false z0)),uKF⟩
  ·have d1:decide (x.kd=1)=false:=decide_eq_false (by omega)
   have d3:decide (x.kd=3)=false:=decide_eq_false (by omega)
   have d6:decide (x.kd=6)=false:=decide_eq_false (by omega)
   have d7:decide (x.kd=7)=false:=decide_eq_false (by omega)
   have d8:decide (x.kd=8)=true:=decide_eq_true c
   have hA:zoneA x=decide (x.zn=1):=by simp[zoneA,c]
   cases z0:decide (¬x.zn=1) with
   |true=>
    repeat first|refine uC ?_|refine uA1 (uI @d1 (uI @d3 (uI @d6 (uI @d7 (uI @d8 @z0))))) ?_
    have:zoneB y.nodes x=false:=by rw[zoneB,hA,decide_eq_false (of_decide_eq_true z0),Bool.false_and]
    rw[this]
    (refine awp_ret (ret1 uRT ?_);try rfl)
   |false=>
    repeat first|refine uC ?_|refine uA1 (uI @d1 (uI @d3 (uI @d6 (uI @d7 (uI @d8 @z0))))) ?_
    refine uW ?_
    refine⟨_,by rw[hA];exact decide_eq_true (Decidable.byContradiction (of_decide_eq_false z0)),uKF⟩
  ·have d1:=decide_eq_false n1
   have d3:=decide_eq_false n3
   have d6:=decide_eq_false n6
   have d7:=decide_eq_false n7
   have d8:=decide_eq_false n8
   repeat first|refine uC ?_|refine uA1 (uI @d1 (uI @d3 (uI @d6 (uI @d7 @d8)))) ?_
   refine uW ?_
   refine⟨_,by simp[zoneA,n1,n3,n6,n7,n8],uKF⟩
 rintro ck0 hA
 repeat refine uA ?_
 refine uW ?_
 refine awp_loopW (fun q:Nat×Nat=>⟨[(2, .ptO 102 1 0 0 0),(5, .ptO 105 8 0 0 0),(30,IS x.ex),(31,I x.ex.length),(32,I q.2)],(105,some (8, .box [S x.nm,I x.kd,I x.ln,I x.zn,IS x.ex]))::(102,some (1, .box [.sl (nds y.nodes) false, .sl (t3s y.devs) false]))::[],q.1⟩) (fun q=>q.2<=x.ex.length/\∀j,j<q.2->zoneK y.nodes x j=true) (fun q=>x.ex.length - q.2) (_,0) ⟨Nat.zero_le _,fun j hj=>absurd hj (Nat.not_lt_zero _)⟩ (uKF) ?_
 rintro⟨ck,k⟩ ⟨hk,hj⟩
 simp only at hk hj
 repeat refine uA ?_
 refine uW ?_;refine condP _ rfl (fun h=>?_) (fun h=>?_)
 ·have hlt:k<x.ex.length:=by omega
  obtain⟨r0,r1⟩:=hr k hlt
  have hbad:zoneK y.nodes x k=false->zoneB y.nodes x=false:=fun h=>by rw[zoneB,range_all_false hlt h,Bool.and_false]
  have hgood:zoneK y.nodes x k=true->∀j,j<k+1->zoneK y.nodes x j=true:=fun h j hj'=>by
   by_cases hji:j=k
   ·subst hji;exact h
   ·exact hj j (by omega)
  obtain⟨zk,hzk⟩:∃zk,zk=zoneK y.nodes x k:=⟨_,rfl⟩
  rw[<-hzk] at hbad hgood
  unfold zoneK at hzk
  obtain⟨m,hm⟩:∃m,m=(x.ex.getD k 0).toNat:=⟨_,rfl⟩
  have hmm:x.ex.getD k 0=(m:Int):=by omega
  rw[<-hm] at hzk
  have hmn:m<y.nodes.length:=by omega
  generalize e3:y.nodes.getD m default=t at*
  iterate 2 refine uA1 (uI (ints_getD hlt) @hmm) ?_
  refine awp_seq ?_
  refine awp_merge (fun q:Nat=>⟨[(2, .ptO 102 1 0 0 0),(5, .ptO 105 8 0 0 0),(7,I m),(8,I (zoneW x k)),(30,IS x.ex),(31,I x.ex.length),(32,I k)],(105,some (8, .box [S x.nm,I x.kd,I x.ln,I x.zn,IS x.ex]))::(102,some (1, .box [.sl (nds y.nodes) false, .sl (t3s y.devs) false]))::[],q⟩) (fun _=>True) ?_ ?_
  ·by_cases c6:x.kd=6
   ·have d6:=decide_eq_true c6
    by_cases ck1:k=1
    ·have dk:decide ((k:Int)=1)=true:=decide_eq_true (by omega)
     have hw:zoneW x k=1:=by rw[zoneW,if_pos ⟨c6,ck1⟩]
     repeat first|refine uC ?_|refine uA1 (uI @d6 @dk) ?_
     refine uW ?_
     refine⟨_,trivial, .of (Nat.le_refl _) (uHF1 @hw) (uWF1 @hw)⟩
    ·have dk:decide ((k:Int)=1)=false:=decide_eq_false (by omega)
     have hw:zoneW x k=x.zn:=by rw[zoneW,if_neg (fun h=>ck1 h.2)]
     repeat first|refine uC ?_|refine uA1 (uI @d6 @dk) ?_
     refine uW ?_
     refine⟨_,trivial, .of (Nat.le_refl _) (uHF1 @hw) (uWF1 @hw)⟩
   ·have d6:=decide_eq_false c6
    have hw:zoneW x k=x.zn:=by rw[zoneW,if_neg (fun h=>c6 h.1)]
    repeat first|refine uC ?_|refine uA1 @d6 ?_
    refine uW ?_
    refine⟨_,trivial, .of (Nat.le_refl _) (uHF1 @hw) (uWF1 @hw)⟩
  ·rintro ck1 -
   generalize zoneW x k=wt at*
   cases c1:decide (t.kd=1) with
   |true=>
    rw[c1,Bool.true_or] at hzk
    repeat first|refine uC ?_|refine uA1 (uI (nds_getD hmn) (uI @e3 @c1)) ?_
    rw[hbad hzk]
    (refine awp_ret (ret1 uRT ?_);try rfl)
   |false=>
    cases c2:decide (¬t.zn=wt) with
    |true=>
     rw[c1,c2] at hzk
     repeat first|refine uC ?_|refine uA1 (uI (nds_getD hmn) (uI @e3 (uI @c1 @c2))) ?_
     rw[hbad hzk]
     (refine awp_ret (ret1 uRT ?_);try rfl)
    |false=>
     rw[c1,c2] at hzk
     repeat first|refine uC ?_|refine uA1 (uI (nds_getD hmn) (uI @e3 (uI @c1 @c2))) ?_
     refine⟨(_,k+1),⟨by simp only;omega,hgood hzk⟩,by simp only;omega,uKF⟩
 ·refine awp_exit ?_
  have:zoneB y.nodes x=true:=by rw[zoneB,hA,range_all_true fun j hj'=>hj j (by omega)];rfl
  rw[this]
  repeat refine uA ?_
  (refine awp_ret (ret1 uRT ?_);try rfl)
def devOne (xs:List Nd) (d:T3):Int:=
 if ¬d.a=1/\¬d.a=2 then 4 else if d.b<0\/(xs.length:Int)<=d.b\/d.c<0\/(xs.getD d.b.toNat default).ln<=d.c then 1 else 0
def dupK (ds:List T3) (i:Nat):Bool:=!(ds.take i).any fun y=>eqT (ds.getD i default) y
def devE (xs:List Nd) (ds:List T3):Int:=match ds.find? fun d=>!decide (devOne xs d=0) with
 |some d=>devOne xs d
 |none=>if(List.range ds.length).all (dupK ds)=true then 0 else 5
theorem devE_bad {xs:List Nd} {ds:List T3} {i:Nat} (hi:i<ds.length) (h:∀j,j<i->devOne xs (ds.getD j default)=0) (hb:¬devOne xs (ds.getD i default)=0):devE xs ds=devOne xs (ds.getD i default):=by
 have:(ds.find? fun d=>!decide (devOne xs d=0))=some (ds.getD i default):=by
  rw[List.find?_eq_some_iff_getElem]
  refine⟨by simpa using hb,i,hi,by simp[hi],fun j hj=>?_⟩
  have hjl:j<ds.length:=by omega
  have:=h j hj
  simpa[hjl] using this
 rw[devE,this]
theorem devE_ok {xs:List Nd} {ds:List T3} (h:∀j,j<ds.length->devOne xs (ds.getD j default)=0):devE xs ds=if(List.range ds.length).all (dupK ds)=true then 0 else 5:=by
 have:(ds.find? fun d=>!decide (devOne xs d=0))=none:=by
  rw[List.find?_eq_none]
  intro d hd
  obtain⟨j,hj,rfl⟩:=List.getElem_of_mem hd
  have:=h j hj
  simpa[hj] using this
 rw[devE,this]
theorem ldevices_sat (y:Ly) (hN:y.nodes.length<=1000) (hD:y.devs.length<=1000):SatG Tryz.prog tab 106 [] [y.av] [] (I (devE y.nodes y.devs)):=by
 refine uFN Tryz.func106 Tryz.ntmps106 ?_;intro w e X hC
 repeat refine uA ?_
 refine uW ?_
 refine awp_loopW (fun q:Nat×Nat=>⟨[(1, .ptO 101 1 0 0 0),(8, .sl (t3s y.devs) false),(9,I y.devs.length),(10,I q.2)],(101,some (1, .box [.sl (nds y.nodes) false, .sl (t3s y.devs) false]))::[],q.1⟩) (fun q=>q.2<=y.devs.length/\∀j,j<q.2->devOne y.nodes (y.devs.getD j default)=0) (fun q=>y.devs.length - q.2) (_,0) ⟨Nat.zero_le _,fun j hj=>absurd hj (Nat.not_lt_zero _)⟩ (uKF) ?_
 rintro⟨ck,k⟩ ⟨hk,hj⟩
 simp only at hk hj
 repeat refine uA ?_
 refine uW ?_;refine condP _ rfl (fun h=>?_) (fun h=>?_)
 ·have hlt:k<y.devs.length:=by omega
  have hbad:=devE_bad hlt hj
  have hgood:devOne y.nodes (y.devs.getD k default)=0->∀j,j<k+1->devOne y.nodes (y.devs.getD j default)=0:=fun h j hj'=>by
   by_cases hji:j=k
   ·subst hji;exact h
   ·exact hj j (by omega)
  have hE:devOne y.nodes (y.devs.getD k default)=_:=devOne.eq_1 _ _
  generalize devOne y.nodes (y.devs.getD k default)=r at*
  generalize e1:y.devs.getD k default=d at*
  refine uA1 (uI (t3s_getD hlt) @e1) ?_
  refine awp_block ?_
  refine awp_seq ?_
  refine awp_merge (fun q:Nat=>⟨[(1, .ptO 101 1 0 0 0),(4, .ptO 104 (ck+3) 0 0 0),(8, .sl (t3s y.devs) false),(9,I y.devs.length),(10,I k),(14,B (decide (¬d.a=1/\¬d.a=2)))],(104,some (ck+3, .box [I d.a,I d.b,I d.c]))::(101,some (1, .box [.sl (nds y.nodes) false, .sl (t3s y.devs) false]))::[],q⟩) (fun _=>True) ?_ ?_
  ·cases d1:decide (¬d.a=1) with
   |true=>
    have h1:=of_decide_eq_true d1
    cases d2:decide (¬d.a=2) with
    |true=>
     rw[decide_eq_true (show ¬d.a=1/\¬d.a=2 from⟨h1,of_decide_eq_true d2⟩)]
     repeat refine uA1 (uI @d1 @d2) ?_
     refine⟨_,trivial,uKF⟩
    |false=>
     have h2:=of_decide_eq_false d2
     rw[decide_eq_false (show ¬(¬d.a=1/\¬d.a=2) from fun h=>h2 h.2)]
     repeat refine uA1 (uI @d1 @d2) ?_
     refine⟨_,trivial,uKF⟩
   |false=>
    have h1:=of_decide_eq_false d1
    rw[decide_eq_false (show ¬(¬d.a=1/\¬d.a=2) from fun h=>h1 h.1)]
    repeat refine uA1 @d1 ?_
    refine⟨_,trivial,uKF⟩
  rintro ck1 -
  refine uW ?_;refine condP _ rfl (fun ca=>?_) (fun ca=>?_)
  ·rw[if_pos ca] at hE
   repeat refine uA ?_
   rw[hbad (by omega),hE]
   (refine awp_ret (ret1 uRT ?_);try rfl)
  rw[if_neg ca] at hE
  cases d1:decide (d.b<0) with
  |true=>
   rw[if_pos (.inl (of_decide_eq_true d1))] at hE
   refine uE1 @d1 ?_;intro K hK
   refine uH ?_
   refine hK _ ?_;clear hK K
   refine uT ?_
   repeat refine uA ?_
   rw[hbad (by omega),hE]
   (refine awp_ret (ret1 uRT ?_);try rfl)
  |false=>
   have g1:=of_decide_eq_false d1
   cases d2:decide ((y.nodes.length:Int)<=d.b) with
   |true=>
    rw[if_pos (.inr (.inl (of_decide_eq_true d2)))] at hE
    refine uE1 (uI @d1 @d2) ?_;intro K hK
    refine uH ?_
    refine hK _ ?_;clear hK K
    refine uT ?_
    repeat refine uA ?_
    rw[hbad (by omega),hE]
    (refine awp_ret (ret1 uRT ?_);try rfl)
   |false=>
    have g2:=of_decide_eq_false d2
    cases d3:decide (d.c<0) with
    |true=>
     rw[if_pos (.inr (.inr (.inl (of_decide_eq_true d3))))] at hE
     refine uE1 (uI @d1 (uI @d2 @d3)) ?_;intro K hK
     refine uH ?_
     refine hK _ ?_;clear hK K
     refine uT ?_
     repeat refine uA ?_
     rw[hbad (by omega),hE]
     (refine awp_ret (ret1 uRT ?_);try rfl)
    |false=>
     have g3:=of_decide_eq_false d3
     obtain⟨m,hm⟩:∃m,m=d.b.toNat:=⟨_,rfl⟩
     have hmm:d.b=(m:Int):=by omega
     rw[<-hm] at hE
     have hmn:m<y.nodes.length:=by omega
     generalize e2:y.nodes.getD m default=x at*
     have d2':decide ((y.nodes.length:Int)<=m)=false:=decide_eq_false (by omega)
     have d1':decide ((m:Int)<0)=false:=decide_eq_false (by omega)
     cases d4:decide (x.ln<=d.c) with
     |true=>
      rw[if_pos (.inr (.inr (.inr (of_decide_eq_true d4))))] at hE
      refine uE1 (uI @hmm (uI @d1' (uI @d2' (uI @d3 (uI (nds_getD hmn) (uI @e2 @d4)))))) ?_;intro K hK
      refine uH ?_
      refine hK _ ?_;clear hK K
      refine uT ?_
      repeat refine uA ?_
      rw[hbad (by omega),hE]
      (refine awp_ret (ret1 uRT ?_);try rfl)
     |false=>
      have g4:=of_decide_eq_false d4
      rw[if_neg (fun h=>by rcases h with h|h|h|h<;>omega)] at hE
      refine uE1 (uI @hmm (uI @d1' (uI @d2' (uI @d3 (uI (nds_getD hmn) (uI @e2 @d4)))))) ?_;intro K hK
      refine uH ?_
      refine hK _ ?_;clear hK K
      refine uF ?_
      repeat refine uA ?_
      refine⟨(_,k+1),⟨by simp only;omega,hgood hE⟩,by simp only;omega,uKF⟩
 ·refine awp_exit ?_
  obtain rfl:k=y.devs.length:=by omega
  rw[devE_ok hj]
  clear hj
  repeat refine uA ?_
  refine uW ?_
  refine awp_loopW (fun q:Nat×Nat=>⟨[(1, .ptO 101 1 0 0 0),(54, .sl (t3s y.devs) false),(55,I y.devs.length),(56,I q.2)],(101,some (1, .box [.sl (nds y.nodes) false, .sl (t3s y.devs) false]))::[],q.1⟩) (fun q=>q.2<=y.devs.length/\∀j,j<q.2->dupK y.devs j=true) (fun q=>y.devs.length - q.2) (_,0) ⟨Nat.zero_le _,fun j hj=>absurd hj (Nat.not_lt_zero _)⟩ (uKF) ?_
  rintro⟨ck2,k⟩ ⟨hk,hj⟩
  simp only at hk hj
  repeat refine uA ?_
  refine uW ?_;refine condP _ rfl (fun h=>?_) (fun h=>?_)
  ·have hlt:k<y.devs.length:=by omega
   have hct:=containsD_sat (y.devs.take k) (y.devs.getD k default) (by rw[List.length_take];omega)
   have hbad:dupK y.devs k=false->(List.range y.devs.length).all (dupK y.devs)=false:=range_all_false hlt
   have hgood:dupK y.devs k=true->∀j,j<k+1->dupK y.devs j=true:=fun h j hj'=>by
    by_cases hji:j=k
    ·subst hji;exact h
    ·exact hj j (by omega)
   unfold dupK at hbad hgood
   have htk:(y.devs.take k).length=k:=by rw[List.length_take];omega
   generalize ((y.devs.take k).any fun z=>eqT (y.devs.getD k default) z)=v at*
   generalize e1:y.devs.getD k default=d at*
   refine uA1 (uI (t3s_getD hlt) @e1) ?_
   refine uE1 (uI @t3s_take @htk) ?_;intro K hK
   refine⟨by omega,?_⟩
   refine callF uTS (hct) uTS uTS uTS ?_;refine uS ?_
   refine uH ?_
   refine hK _ ?_;clear hK K
   cases v with
   |true=>
    rw[if_neg (fun h=>absurd (h.symm.trans (hbad rfl)) (by decide))]
    refine uT ?_
    repeat refine uA ?_
    (refine awp_ret (ret1 uRT ?_);try rfl)
   |false=>
    refine uF ?_
    repeat refine uA ?_
    refine⟨(_,k+1),⟨by simp only;omega,hgood rfl⟩,by simp only;omega,uKF⟩
  ·refine awp_exit ?_
   rw[if_pos (range_all_true fun j hj'=>hj j (by omega))]
   repeat refine uA ?_
   (refine awp_ret (ret1 uRT ?_);try rfl)
theorem mfind_succ (n:Int):∀(l:List (Int×Int)) (i:Nat),mfind n l (i+1)=(mfind n l i).map fun q=>(q.1+1,q.2)
 |[],_=>rfl
 |p::l,i=>by
  rw[mfind,mfind]
  split
  ·rfl
  ·exact mfind_succ n l (i+1)
theorem mget_cons (p:Int×Int) (l:List (Int×Int)) (m:Int):mget (p::l) m=if m=p.1 then p.2 else mget l m:=by
 unfold mget
 rw[mfind]
 by_cases h:m=p.1
 ·rw[if_pos h,if_pos h]
 ·rw[if_neg h,if_neg h,mfind_succ]
  cases mfind m l 0<;>rfl
theorem mset_cons (p:Int×Int) (l:List (Int×Int)) (n v:Int):mset (p::l) n v=if n=p.1 then(n,v)::l else p::mset l n v:=by
 unfold mset
 rw[mfind]
 by_cases h:n=p.1
 ·rw[if_pos h,if_pos h];rfl
 ·rw[if_neg h,if_neg h,mfind_succ]
  cases mfind n l 0 with
  |none=>rfl
  |some q=>rfl
theorem mget_mset (n v m:Int):∀l:List (Int×Int),mget (mset l n v) m=if m=n then v else mget l m
 |[]=>by
  show mget [(n,v)] m=_
  rw[mget_cons]
 |p::l=>by
  rw[mset_cons]
  split
  ·rename_i h
   rw[mget_cons,mget_cons]
   by_cases hm:m=n
   ·simp[hm]
   ·simp[hm,<-h]
  ·rename_i h
   rw[mget_cons,mget_cons,mget_mset n v m l]
   by_cases hm:m=n
   ·subst hm;simp[h]
   ·simp[hm]
def own1 (ex:List Int) (k i:Int):Int:=(ex.countP fun e=>decide (e=i)&&!decide (e=k):Nat)
theorem own1_snoc (ex:List Int) (e k i:Int):own1 (ex++[e]) k i=own1 ex k i+if e=i/\¬e=k then 1 else 0:=by
 unfold own1
 rw[List.countP_append]
 by_cases h:e=i/\¬e=k
 ·rw[if_pos h];simp[h.1,h.2,List.countP_cons]
  rw[<-h.1];simp[h.2]
 ·rw[if_neg h]
  have:(decide (e=i)&&!decide (e=k))=false:=by
   by_cases h1:e=i
   ·have:e=k:=Decidable.byContradiction fun h2=>h ⟨h1,h2⟩
    simp[this]
   ·simp[h1]
  simp[List.countP_cons,this]
theorem own1_nonneg (ex:List Int) (k i:Int):0<=own1 ex k i:=by unfold own1;omega
theorem own1_le (ex:List Int) (k i:Int):own1 ex k i<=ex.length:=by
 unfold own1
 have:=List.countP_le_length (l:=ex) (p:=fun e=>decide (e=i)&&!decide (e=k))
 omega
theorem own1_zero {ex:List Int} {k i:Int}:own1 ex k i=0↔¬(¬k=i/\i∈ex):=by
 unfold own1
 rw[show((ex.countP fun e=>decide (e=i)&&!decide (e=k):Nat):Int)=0↔(ex.countP fun e=>decide (e=i)&&!decide (e=k))=0 by omega,List.countP_eq_zero]
 constructor
 ·rintro h ⟨h1,h2⟩
  have:=h i h2
  simp at this
  exact h1 this.symm
 ·intro h a ha h2
  simp only[Bool.and_eq_true,decide_eq_true_eq,Bool.not_eq_true',decide_eq_false_iff_not] at h2
  obtain⟨rfl,h3⟩:=h2
  exact h ⟨fun h4=>h3 h4.symm,ha⟩
def wts (xs:List Nd) (out:List Int) (i:Int):Nat->Int
 |0=>0
 |k+1=>wts xs out i k+if(k:Int)∈out then 0 else own1 (xs.getD k default).ex k i
theorem wts_nonneg (xs:List Nd) (out:List Int) (i:Int):∀k,0<=wts xs out i k
 |0=>Int.le_refl _
 |k+1=>by
  have:=wts_nonneg xs out i k
  have:=own1_nonneg (xs.getD k default).ex k i
  rw[wts];split<;>omega
theorem wts_le {xs:List Nd} {out:List Int} {i:Int} (hx:∀k,k<xs.length->(xs.getD k default).ex.length<=1000):∀k,k<=xs.length->wts xs out i k<=1000*k
 |0,_=>by simp[wts]
 |k+1,h=>by
  have:=wts_le (out:=out) (i:=i) hx k (by omega)
  have:=own1_le (xs.getD k default).ex k i
  have:=hx k (by omega)
  rw[wts];split<;>omega
theorem wts_zero {xs:List Nd} {out:List Int} {i:Int}:∀{n},wts xs out i n=0↔∀k,k<n->¬(k:Int)∈out->own1 (xs.getD k default).ex k i=0
 |0=>by simp[wts]
 |n+1=>by
  have ih:=wts_zero (xs:=xs) (out:=out) (i:=i) (n:=n)
  have h1:=wts_nonneg xs out i n
  have h2:=own1_nonneg (xs.getD n default).ex n i
  rw[wts]
  constructor
  ·intro h k hk hko
   have hw:wts xs out i n=0:=by split at h<;>omega
   by_cases hkn:k=n
   ·subst hkn;rw[if_neg hko] at h;omega
   ·exact ih.1 hw k (by omega) hko
  ·intro h
   have hw:=ih.2 fun k hk=>h k (by omega)
   rw[hw]
   split
   ·rfl
   ·rename_i ho
    rw[h n (by omega) ho];rfl
theorem wts_out {xs:List Nd} {out:List Int} {i:Int} {m:Nat} (hm:¬(m:Int)∈out):∀n,wts xs (out++[(m:Int)]) i n=wts xs out i n - if m<n then own1 (xs.getD m default).ex m i else 0
 |0=>by simp[wts]
 |n+1=>by
  have ih:=wts_out (xs:=xs) (i:=i) hm n
  rw[wts,wts,ih]
  by_cases hmn:m=n
  ·subst hmn
   simp[hm]
  ·have e1:((n:Int)∈out++[(m:Int)])↔(n:Int)∈out:=by
    simp only[List.mem_append,List.mem_singleton]
    exact⟨fun h=>h.elim id fun h=>by omega, .inl⟩
   simp only[e1]
   by_cases hlt:m<n
   ·simp only[if_pos hlt,if_pos (show m<n+1 by omega)];split<;>omega
   ·simp only[if_neg hlt,if_neg (show ¬m<n+1 by omega)];split<;>omega
theorem rdyK_iff {xs:List Nd} {out:List Int} {i:Nat}:∀{n},rdyK xs out i n=true↔¬(i:Int)∈out/\∀k,k<n->leadsB (xs.getD k default) k i=true->(k:Int)∈out
 |0=>by simp[rdyK]
 |n+1=>by
  rw[rdyK]
  constructor
  ·intro h
   split at h
   ·cases h
   ·rename_i h2
    obtain⟨h3,h4⟩:=rdyK_iff.1 h
    refine⟨h3,fun k hk hl=>?_⟩
    by_cases hkn:k=n
    ·subst hkn
     exact Decidable.byContradiction fun ho=>h2 ⟨hl,ho⟩
    ·exact h4 k (by omega) hl
  ·rintro⟨h1,h2⟩
   rw[if_neg (fun h=>h.2 (h2 n (by omega) h.1))]
   exact rdyK_iff.2 ⟨h1,fun k hk=>h2 k (by omega)⟩
theorem rdy_wts {xs:List Nd} {out:List Int} {i:Nat}:rdyK xs out i xs.length=(!decide ((i:Int)∈out)&&decide (wts xs out i xs.length=0)):=by
 rw[Bool.eq_iff_iff,rdyK_iff]
 simp only[Bool.and_eq_true,Bool.not_eq_true',decide_eq_false_iff_not,decide_eq_true_eq,wts_zero,own1_zero,leadsB]
 refine and_congr_right fun _=>⟨fun h k hk ho h2=>ho (h k hk h2),fun h k hk h2=>Decidable.byContradiction fun ho=>h k hk ho h2⟩
theorem nxF_first {xs:List Nd} {out:List Int} {i:Nat} (hi:i<xs.length) (h:rdyK xs out i xs.length=true) (hb:∀j,j<i->rdyK xs out j xs.length=false):nxt xs out=i:=by
 have:∀c,c<=xs.length->xs.length - c<=i->nxF xs out c=i:=by
  intro c
  induction c with
  |zero=>intro _ h2;omega
  |succ c ih=>
   intro h1 h2
   rw[nxF]
   by_cases he:xs.length - 1 - c=i
   ·rw[he,if_pos h]
   ·rw[hb _ (by omega),if_neg (by decide)]
    exact ih (by omega) (by omega)
 exact this xs.length (Nat.le_refl _) (by omega)
theorem nxF_none {xs:List Nd} {out:List Int} (hb:∀j,j<xs.length->rdyK xs out j xs.length=false):nxt xs out=-1:=by
 have:∀c,c<=xs.length->nxF xs out c=-1:=by
  intro c
  induction c with
  |zero=>intro _;rfl
  |succ c ih=>
   intro h1
   rw[nxF,hb _ (by omega),if_neg (by decide)]
   exact ih (by omega)
 exact this xs.length (Nat.le_refl _)
def dl (N:Nat) (o:List Int):List Bool:=(List.range N).map fun(i:Nat)=>decide ((i:Int)∈o)
theorem dl_len (N:Nat) (o:List Int):(dl N o).length=N:=by simp[dl]
theorem dl_getD {N i:Nat} {o:List Int} (h:i<N):(dl N o).getD i false=decide ((i:Int)∈o):=by simp[dl,h]
theorem dl_nil (N:Nat):List.replicate N false=dl N []:=by
 apply List.ext_getElem
 ·simp[dl]
 ·intro i h1 h2;simp[dl]
theorem dl_snoc {N m:Nat} {o:List Int}:(dl N o).set m true=dl N (o++[(m:Int)]):=by
 apply List.ext_getElem
 ·simp[dl]
 ·intro i h1 h2
  rw[List.getElem_set]
  by_cases h:m=i
  ·subst h;simp[dl]
  ·have:¬(i:Int)=(m:Int):=by omega
   simp[dl,h,this]
theorem nxF_rdy {xs:List Nd} {out:List Int}:∀c,0<=nxF xs out c->rdyK xs out (nxF xs out c).toNat xs.length=true
 |0,h=>by rw[nxF] at h;omega
 |c+1,h=>by
  rw[nxF] at h ⊢
  by_cases h2:rdyK xs out (xs.length - 1 - c) xs.length=true
  ·rw[if_pos h2,Int.toNat_natCast];exact h2
  ·rw[if_neg h2] at h ⊢;exact nxF_rdy c h
theorem sorted_sat (y:Ly) (hy:y.nodes.length<=1000) (hx:∀i,i<y.nodes.length->(y.nodes.getD i default).ex.length<=1000) (hr:∀i,i<y.nodes.length->∀j,j<(y.nodes.getD i default).ex.length->0<=(y.nodes.getD i default).ex.getD j 0/\(y.nodes.getD i default).ex.getD j 0<y.nodes.length):
  SatG Tryz.prog tab 105 [] [y.av] [] (IS (order y.nodes)):=by
 refine uFN Tryz.func105 Tryz.ntmps105 ?_;intro w e X hC
 repeat refine uA ?_
 refine uW ?_
 refine awp_loopW (fun q:Nat×Nat×List (Int×Int)=>⟨[(1, .ptO 101 1 0 0 0),(3, .mpO 114 3),(16, .sl (nds y.nodes) false),(17,I y.nodes.length),(18,I q.2.1)],(114,some (3, .mp q.2.2))::(101,some (1, .box [.sl (nds y.nodes) false, .sl (t3s y.devs) false]))::[],q.1⟩) (fun q=>q.2.1<=y.nodes.length/\∀i,mget q.2.2 i=wts y.nodes [] i q.2.1) (fun q=>y.nodes.length - q.2.1) (_,0,[]) ⟨Nat.zero_le _,fun _=>rfl⟩ (uKF) ?_
 rintro⟨ck,a,es⟩ ⟨ha,hes⟩
 simp only at ha hes
 repeat refine uA ?_
 refine uW ?_;refine condP _ rfl (fun h=>?_) (fun h=>?_)
 ·have hlt:a<y.nodes.length:=by omega
  have hxa:=hx a hlt
  have hW:∀i,wts y.nodes [] i (a+1)=wts y.nodes [] i a+own1 (y.nodes.getD a default).ex a i:=fun i=>by rw[wts,if_neg (by simp)]
  have hWl:∀i,wts y.nodes [] i a<=1000*a:=fun i=>wts_le hx a ha
  have hWn:∀i,0<=wts y.nodes [] i a:=fun i=>wts_nonneg _ _ _ _
  generalize e1:y.nodes.getD a default=x at*
  repeat refine uA1 (uI (nds_getD hlt) @e1) ?_
  refine uW ?_
  refine awp_loopW (fun q:Nat×Nat×List (Int×Int)=>⟨[(1, .ptO 101 1 0 0 0),(3, .mpO 114 3),(4,I a),(16, .sl (nds y.nodes) false),(17,I y.nodes.length),(18,I a),(24,IS x.ex),(25,I x.ex.length),(26,I q.2.1)],(114,some (3, .mp q.2.2))::(101,some (1, .box [.sl (nds y.nodes) false, .sl (t3s y.devs) false]))::[],q.1⟩) (fun q=>q.2.1<=x.ex.length/\∀i,mget q.2.2 i=wts y.nodes [] i a+own1 (x.ex.take q.2.1) a i) (fun q=>x.ex.length - q.2.1) (_,0,es) ⟨Nat.zero_le _,fun i=>by simp only[List.take_zero];rw[hes i,own1];simp⟩ (uKF) ?_
  rintro⟨ck2,c,es2⟩ ⟨hc,hes2⟩
  simp only at hc hes2
  repeat refine uA ?_
  refine uW ?_;refine condP _ rfl (fun h2=>?_) (fun h2=>?_)
  ·have hlt2:c<x.ex.length:=by omega
   have htk:=take_getD (d:=0) hlt2
   have hO:∀i,own1 (x.ex.take (c+1)) a i=own1 (x.ex.take c) a i+if x.ex.getD c 0=i/\¬x.ex.getD c 0=a then 1 else 0:=fun i=>by rw[htk,own1_snoc]
   have hOl:∀i,own1 (x.ex.take c) a i<=c:=fun i=>by have:=own1_le (x.ex.take c) a i;rw[List.length_take] at this;omega
   have hOn:∀i,0<=own1 (x.ex.take c) a i:=fun i=>own1_nonneg _ _ _
   generalize e2:x.ex.getD c 0=e at*
   have hge:=hes2 e
   have:=hWl e
   have:=hWn e
   have:=hOl e
   have:=hOn e
   repeat refine uA1 (uI (ints_getD hlt2) @e2) ?_
   refine uW ?_;refine condP _ rfl (fun h3=>?_) (fun h3=>?_)
   ·repeat refine uA ?_
    refine⟨(_,c+1,mset es2 e (mget es2 e+1)),⟨by simp only;omega,fun i=>?_⟩,by simp only;omega,uKF⟩
    simp only
    rw[mget_mset,hO i,hes2 e,hes2 i]
    by_cases hi:i=e
    ·subst hi;rw[if_pos rfl,if_pos ⟨rfl,h3⟩];omega
    ·rw[if_neg hi,if_neg (fun h=>hi h.1.symm)];omega
   ·repeat refine uA ?_
    refine⟨(_,c+1,es2),⟨by simp only;omega,fun i=>?_⟩,by simp only;omega,uKF⟩
    simp only
    rw[hO i,hes2 i,if_neg (fun h=>h3 h.2)];omega
  ·refine awp_exit ?_
   repeat refine uA ?_
   refine⟨(_,a+1,es2),⟨by simp only;omega,fun i=>?_⟩,by simp only;omega,uKF⟩
   simp only
   rw[hW i,hes2 i,List.take_of_length_le (by omega)]
 ·refine awp_exit ?_
  obtain rfl:a=y.nodes.length:=by omega
  clear h ha
  repeat refine uA ?_
  refine uW ?_
  refine awp_loopW (fun q:Nat×Nat×List (Int×Int)×Nat×Nat=>⟨[(1, .ptO 101 1 0 0 0),(3, .mpO 114 3),(8, .slO 108 q.2.2.2.2 0 q.2.1),(9, .slO 142 q.2.2.2.1 0 y.nodes.length),(45,I y.nodes.length),(46,I q.2.1)],
   (142,some (q.2.2.2.1, .own 4 1 (bls (dl y.nodes.length (ordR y.nodes q.2.1)))))::(108,some (q.2.2.2.2, .own 3 1 (ints (ordR y.nodes q.2.1))))::(114,some (3, .mp q.2.2.1))::(101,some (1, .box [.sl (nds y.nodes) false, .sl (t3s y.devs) false]))::[],q.1⟩)
   (fun q=>q.2.1<=y.nodes.length/\(ordR y.nodes q.2.1).length=q.2.1/\∀i,mget q.2.2.1 i=wts y.nodes (ordR y.nodes q.2.1) i y.nodes.length) (fun q=>y.nodes.length - q.2.1) (_,0,es,ck+5,ck+1) ⟨Nat.zero_le _,rfl,hes⟩ (.of (Nat.le_refl _) (by repeat (first|exact HOk.nil|refine HOk.cons rfl ?_|refine HOk.gone ?_|refine HOk.opt rfl ?_|(refine HOk.cons ?_ ?_;(focus (simp only[go_sem,Nat.reduceAdd,Nat.reduceSub,Nat.reduceMul,Nat.reduceLT,Nat.reduceEqDiff,Nat.reduceBEq,Nat.reduceLeDiff,Int.reduceToNat,↓reduceIte,Int.reduceEq,Int.reduceLT,Int.reduceLE,Int.reduceAdd,Int.reduceSub,Int.reduceNeg,reduceCtorEq,ordR,<-dl_nil];done)))|(refine HOk.less rfl (ObW.ofBW ?_) ?_;(focus ((repeat (first|exact BW.nil|refine BW.same ?_|(refine BW.frz ?_ ?_ ?_ ?_;(focus (first|exact trivial|(simp only[go_sem,Nat.reduceAdd,Nat.reduceSub,Nat.reduceMul,Nat.reduceLT,Nat.reduceEqDiff,Nat.reduceBEq,Nat.reduceLeDiff,Int.reduceToNat,↓reduceIte,Int.reduceEq,Int.reduceLT,Int.reduceLE,Int.reduceAdd,Int.reduceSub,Int.reduceNeg,reduceCtorEq,ordR,<-dl_nil]<;>trivial)));(focus (first|rfl|((simp only[go_sem,Nat.reduceAdd,Nat.reduceSub,Nat.reduceMul,Nat.reduceLT,Nat.reduceEqDiff,Nat.reduceBEq,Nat.reduceLeDiff,Int.reduceToNat,↓reduceIte,Int.reduceEq,Int.reduceLT,Int.reduceLE,Int.reduceAdd,Int.reduceSub,Int.reduceNeg,reduceCtorEq,ordR,<-dl_nil]<;>rfl);done)));(focus (first|(simp only[go_sem,Nat.reduceAdd,Nat.reduceSub,Nat.reduceMul,Nat.reduceLT,Nat.reduceEqDiff,Nat.reduceBEq,Nat.reduceLeDiff,Int.reduceToNat,↓reduceIte,Int.reduceEq,Int.reduceLT,Int.reduceLE,Int.reduceAdd,Int.reduceSub,Int.reduceNeg,reduceCtorEq,ordR,<-dl_nil];done)|((simp only[go_sem,Nat.reduceAdd,Nat.reduceSub,Nat.reduceMul,Nat.reduceLT,Nat.reduceEqDiff,Nat.reduceBEq,Nat.reduceLeDiff,Int.reduceToNat,↓reduceIte,Int.reduceEq,Int.reduceLT,Int.reduceLE,Int.reduceAdd,Int.reduceSub,Int.reduceNeg,reduceCtorEq,ordR,<-dl_nil]<;>simp);done)|(simp;done)))))));done)))) uWF) ?_
  clear hes
  rintro⟨ck,n,es,g1,g2⟩ ⟨hn,hol,hes⟩
  simp only at hn hol hes
  have e1:ordR y.nodes (n+1)=_:=ordR.eq_2 y.nodes n
  have hst:nxt y.nodes (ordR y.nodes n)<0->order y.nodes=ordR y.nodes n:=fun h=>by
   have:=ordR_stop h (y.nodes.length - n)
   rw[show n+(y.nodes.length - n)=y.nodes.length by omega] at this
   exact this
  have hfin:n=y.nodes.length->order y.nodes=ordR y.nodes n:=fun h=>by rw[h];rfl
  generalize ordR y.nodes n=o at*
  repeat refine uA ?_
  refine uW ?_;refine condP _ rfl (fun h=>?_) (fun h=>?_)
  ·have hlt:n<y.nodes.length:=by omega
   refine uA ?_
   refine awp_seq ?_
   refine awp_merge (fun q:Nat=>⟨[(1, .ptO 101 1 0 0 0),(3, .mpO 114 3),(8, .slO 108 g2 0 n),(9, .slO 142 g1 0 y.nodes.length),(10,I (nxt y.nodes o)),(45,I y.nodes.length),(46,I n)],
    (142,some (g1, .own 4 1 (bls (dl y.nodes.length o))))::(108,some (g2, .own 3 1 (ints o)))::(114,some (3, .mp es))::(101,some (1, .box [.sl (nds y.nodes) false, .sl (t3s y.devs) false]))::[],q⟩) (fun _=>True) ?_ ?_
   ·repeat refine uA ?_
    refine uW ?_
    refine awp_loopW (fun q:Nat×Nat=>⟨[(1, .ptO 101 1 0 0 0),(3, .mpO 114 3),(8, .slO 108 g2 0 n),(9, .slO 142 g1 0 y.nodes.length),(10,I (-1)),(45,I y.nodes.length),(46,I n),(50,I y.nodes.length),(51,I q.2)],
     (142,some (g1, .own 4 1 (bls (dl y.nodes.length o))))::(108,some (g2, .own 3 1 (ints o)))::(114,some (3, .mp es))::(101,some (1, .box [.sl (nds y.nodes) false, .sl (t3s y.devs) false]))::[],q.1⟩) (fun q=>q.2<=y.nodes.length/\∀j,j<q.2->rdyK y.nodes o j y.nodes.length=false) (fun q=>y.nodes.length - q.2) (_,0) ⟨Nat.zero_le _,fun j hj=>absurd hj (Nat.not_lt_zero _)⟩ (uKF) ?_
    rintro⟨ck2,i⟩ ⟨hi,hj⟩
    simp only at hi hj
    repeat refine uA ?_
    refine uW ?_;refine condP _ rfl (fun h2=>?_) (fun h2=>?_)
    ·have hil:i<y.nodes.length:=by omega
     have hrd:=rdy_wts (xs:=y.nodes) (out:=o) (i:=i)
     have hfirst:rdyK y.nodes o i y.nodes.length=true->nxt y.nodes o=i:=fun h=>nxF_first hil h hj
     have hgood:rdyK y.nodes o i y.nodes.length=false->∀j,j<i+1->rdyK y.nodes o j y.nodes.length=false:=fun h j hj'=>by
      by_cases hji:j=i
      ·subst hji;exact h
      ·exact hj j (by omega)
     generalize rdyK y.nodes o i y.nodes.length=r at*
     rw[<-hes i] at hrd
     have hbl:i<(dl y.nodes.length o).length:=by rw[dl_len];exact hil
     have hdg:=dl_getD (o:=o) hil
     cases c1:decide ((i:Int)∈o) with
     |true=>
      rw[c1] at hrd hdg
      simp only[Bool.not_true,Bool.false_and] at hrd
      refine uA ?_
      repeat first|refine uC ?_|refine uA1 (uI (bls_getD hbl) (uI @hdg @dl_len)) ?_
      refine⟨(_,i+1),⟨by simp only;omega,hgood hrd⟩,by simp only;omega,uKF⟩
     |false=>
      rw[c1] at hrd hdg
      simp only[Bool.not_false,Bool.true_and] at hrd
      cases c2:decide (mget es i=0) with
      |true=>
       rw[c2] at hrd
       refine uA ?_
       repeat first|refine uC ?_|refine uA1 (uI (bls_getD hbl) (uI @hdg (uI @dl_len @c2))) ?_
       refine awp_exit ?_
       refine⟨_,trivial, .of (Nat.le_refl _) uHF (uWF1 (hfirst hrd))⟩
      |false=>
       rw[c2] at hrd
       refine uA ?_
       repeat first|refine uC ?_|refine uA1 (uI (bls_getD hbl) (uI @hdg (uI @dl_len @c2))) ?_
       refine⟨(_,i+1),⟨by simp only;omega,hgood hrd⟩,by simp only;omega,uKF⟩
    ·refine awp_exit ?_
     have hnone:nxt y.nodes o=-1:=nxF_none fun j hj'=>hj j (by omega)
     refine⟨_,trivial, .of (Nat.le_refl _) uHF (uWF1 @hnone)⟩
   rintro ck2 -
   repeat refine uA ?_
   refine uW ?_;refine condP _ rfl (fun h2=>?_) (fun h2=>?_)
   ·have e5:=hst h2
    refine awp_exit ?_
    repeat refine uA ?_
    (refine awp_ret (ret1 (uRT1 @hol) ?_);try rfl)
    first|refine uS1 (uI @hol @e5) ?_|exact uX1 (uI @hol @e5)
   ·rw[if_neg h2] at e1
    have hrd:rdyK y.nodes o (nxt y.nodes o).toNat y.nodes.length=true:=nxF_rdy _ (by show 0<=nxt y.nodes o;omega)
    have hlt2:nxt y.nodes o<max 1 (y.nodes.length:Int):=nxF_lt _
    obtain⟨m,hm⟩:∃m,m=(nxt y.nodes o).toNat:=⟨_,rfl⟩
    rw[<-hm] at hrd
    have hmm:nxt y.nodes o=(m:Int):=by omega
    rw[hmm] at e1
    have hmn:m<y.nodes.length:=by omega
    have hmo:¬(m:Int)∈o:=(rdyK_iff.1 hrd).1
    have hW:∀i,wts y.nodes (o++[(m:Int)]) i y.nodes.length=wts y.nodes o i y.nodes.length - own1 (y.nodes.getD m default).ex m i:=fun i=>by rw[wts_out hmo,if_pos hmn]
    have hWl:∀i,wts y.nodes o i y.nodes.length<=1000*y.nodes.length:=fun i=>wts_le hx _ (Nat.le_refl _)
    have hWn:∀i,0<=wts y.nodes o i y.nodes.length:=fun i=>wts_nonneg _ _ _ _
    have hxa:=hx m hmn
    have hdl:=dl_len y.nodes.length o
    have hds:=dl_snoc (N:=y.nodes.length) (m:=m) (o:=o)
    have hol2:(o++[(m:Int)]).length=n+1:=by simp[hol]
    generalize e3:y.nodes.getD m default=x at*
    repeat refine uA1 (uI @hmm (uI @hol (uI @dl_len (uI @hds (uI (nds_getD hmn) @e3))))) ?_
    refine uW ?_
    refine awp_loopW (fun q:Nat×Nat×List (Int×Int)×Nat=>⟨[(1, .ptO 101 1 0 0 0),(3, .mpO 114 3),(8, .slO 108 q.2.2.2 0 (n+1)),(9, .slO 142 g1 0 y.nodes.length),(10,I m),(45,I y.nodes.length),(46,I n),(81,IS x.ex),(82,I x.ex.length),(83,I q.2.1)],
     (142,some (g1, .own 4 1 (bls (dl y.nodes.length (o++[(m:Int)])))))::(108,some (q.2.2.2, .own 3 1 (ints (o++[(m:Int)]))))::(114,some (3, .mp q.2.2.1))::(101,some (1, .box [.sl (nds y.nodes) false, .sl (t3s y.devs) false]))::[],q.1⟩)
     (fun q=>q.2.1<=x.ex.length/\∀i,mget q.2.2.1 i=wts y.nodes o i y.nodes.length - own1 (x.ex.take q.2.1) m i) (fun q=>x.ex.length - q.2.1) (_,0,es,_) ⟨Nat.zero_le _,fun i=>by simp only[List.take_zero];rw[hes i,own1];simp⟩ (.of (Nat.le_refl _) (uHF1 @hol) (uWF1 @hol)) ?_
    rintro⟨ck3,c,es2,g3⟩ ⟨hc,hes2⟩
    simp only at hc hes2
    repeat refine uA ?_
    refine uW ?_;refine condP _ rfl (fun h5=>?_) (fun h5=>?_)
    ·have hlt3:c<x.ex.length:=by omega
     have htk:=take_getD (d:=0) hlt3
     have hO:∀i,own1 (x.ex.take (c+1)) m i=own1 (x.ex.take c) m i+if x.ex.getD c 0=i/\¬x.ex.getD c 0=m then 1 else 0:=fun i=>by rw[htk,own1_snoc]
     have hOl:∀i,own1 (x.ex.take c) m i<=c:=fun i=>by have:=own1_le (x.ex.take c) m i;rw[List.length_take] at this;omega
     have hOn:∀i,0<=own1 (x.ex.take c) m i:=fun i=>own1_nonneg _ _ _
     generalize e6:x.ex.getD c 0=e at*
     have hge:=hes2 e
     have:=hWl e
     have:=hWn e
     have:=hOl e
     have:=hOn e
     repeat refine uA1 (uI (ints_getD hlt3) @e6) ?_
     refine uW ?_;refine condP _ rfl (fun h6=>?_) (fun h6=>?_)
     ·repeat refine uA ?_
      refine⟨(_,c+1,mset es2 e (mget es2 e - 1),_),⟨by simp only;omega,fun i=>?_⟩,by simp only;omega,uKF⟩
      simp only
      rw[mget_mset,hO i,hes2 e,hes2 i]
      by_cases hi:i=e
      ·subst hi;rw[if_pos rfl,if_pos ⟨rfl,h6⟩];omega
      ·rw[if_neg hi,if_neg (fun h=>hi h.1.symm)];omega
     ·repeat refine uA ?_
      refine⟨(_,c+1,es2,_),⟨by simp only;omega,fun i=>?_⟩,by simp only;omega,uKF⟩
      simp only
      rw[hO i,hes2 i,if_neg (fun h=>h6 h.2)];omega
    ·refine awp_exit ?_
     repeat refine uA ?_
     refine⟨(_,n+1,es2,g1,g3),⟨by simp only;omega,by simp only;rw[e1];exact hol2,fun i=>?_⟩,by simp only;omega, .of (Nat.le_refl _) (uHF1 @e1) uWF⟩
     simp only
     rw[e1,hW i,hes2 i,List.take_of_length_le (by omega)]
  ·refine awp_exit ?_
   have e4:=hfin (by omega)
   repeat refine uA ?_
   (refine awp_ret (ret1 (uRT1 @hol) ?_);try rfl)
   first|refine uS1 (uI @hol @e4) ?_|exact uX1 (uI @hol @e4)
def zoneOf (A n:Nat) (e:Int):Int:=if e<=A\/e=(n:Int) - 2 then 0 else 1
def EX (A n i:Nat) (z:Int) (e:Int):Prop:=(i:Int)<e/\e<n/\zoneOf A n e=z
structure Shape (A n i:Nat) (x:Nd):Prop where
 kd:1<=x.kd/\x.kd<=9
 k1:x.kd=1↔i=0
 k6:x.kd=6->i=A
 k8:8<=x.kd->A<i
 zn:x.zn=zoneOf A n i
 z0:x.kd=1\/x.kd=3\/x.kd=6->x.zn=0
 z1:x.kd=7\/x.kd=8->x.zn=1
 ln:x.kd<=6->1<=x.ln/\x.ln<=4
 l5:x.kd=5->2<=x.ln
 l0:7<=x.kd->x.ln=0
 ex:(8<=x.kd/\x.ex=[])\/((x.kd=1\/x.kd=2\/x.kd=3\/x.kd=7)/\∃e,x.ex=[e]/\EX A n i x.zn e)\/
  (x.kd=4/\∃e f,x.ex=[e,f]/\e≠f/\EX A n i x.zn e/\EX A n i x.zn f)\/
  (x.kd=5/\∃f,x.ex=[(i:Int),f]/\EX A n i x.zn f)\/
  (x.kd=6/\∃e f,x.ex=[e,f]/\e≠f/\EX A n i 0 e/\EX A n i 1 f)
theorem gO_cases {l:List Int} {a:Nat} {es:List Int} {x:Int}:((gO l a es x).1=-1/\rest es x=[])\/((gO l a es x).1∈es/\(gO l a es x).1≠x):=by
 unfold gO
 split
 ·next h=>exact .inl ⟨rfl,h⟩
 ·next h=>
  refine .inr ?_
  have hl:0<(rest es x).length:=List.length_pos_iff.mpr h
  have hb:=gN_lt (l:=l) (a:=a) (n:=((rest es x).length:Int)) (by omega)
  have hm:=getD_memI (l:=rest es x) (n:=(gN l a (rest es x).length).toNat) (by omega)
  simp only
  rw[rest,List.mem_filter] at hm
  exact⟨hm.1,of_decide_eq_true hm.2⟩
theorem gP_mem {l:List Int} {a:Nat} {es:List Int} (h:es≠[]):gP l a es∈es:=by
 have hl:0<es.length:=List.length_pos_iff.mpr h
 have hb:=gN_lt (l:=l) (a:=a) (n:=(es.length:Int)) (by omega)
 exact getD_memI (by omega)
theorem rest_ne {es:List Int} {x:Int} (h:es≠[]) (hx:x∉es):rest es x≠[]:=by
 obtain⟨y,hy⟩:=List.exists_mem_of_ne_nil es h
 intro h0
 have:y∈rest es x:=by rw[rest,List.mem_filter];exact⟨hy,by simp;intro h;exact hx (h ▸ hy)⟩
 rw[h0] at this
 cases this
theorem gS_shape {l:List Int} {a:Nat} {i z:Int} {kinds to:List Int} (hk:kinds≠[]) (ht:to≠[]) (P:Int->Prop) (hP:∀e∈to,P e/\0<=e):
  ((gS l a i z kinds to).1.kd∈kinds\/((gS l a i z kinds to).1.kd=2/\4∈kinds))/\(gS l a i z kinds to).1.zn=z/\(1<=(gS l a i z kinds to).1.ln/\(gS l a i z kinds to).1.ln<=4)/\((gS l a i z kinds to).1.kd=5->2<=(gS l a i z kinds to).1.ln)/\
  (((gS l a i z kinds to).1.kd=5/\∃f,(gS l a i z kinds to).1.ex=[i,f]/\P f)\/((gS l a i z kinds to).1.kd=4/\∃e f,(gS l a i z kinds to).1.ex=[e,f]/\e≠f/\P e/\P f)\/
   ((gS l a i z kinds to).1.kd≠4/\(gS l a i z kinds to).1.kd≠5/\∃e,(gS l a i z kinds to).1.ex=[e]/\P e)):=by
 have hm1:(-1:Int)∉to:=fun h=>by have:=(hP _ h).2;omega
 have hkm:=gP_mem (l:=l) (a:=a) hk
 have hln:=gR_lt (l:=l) (a:=a+1) (lo:=1) (hi:=3) (by omega)
 have hf:P (gO l (a+2) to (-1)).1:=by
  rcases gO_cases (l:=l) (a:=a+2) (es:=to) (x:=-1) with ⟨_,h⟩|⟨h,_⟩
  ·exact absurd h (rest_ne ht hm1)
  ·exact(hP _ h).1
 unfold gS
 simp only
 split
 ·next h5=>
  refine⟨.inl hkm,rfl,?_,?_, .inl ⟨h5,_,rfl,hf⟩⟩
  ·simp only;omega
  ·simp only;omega
 ·next h5=>
  split
  ·next h4=>
   rcases gO_cases (l:=l) (a:=(gO l (a+2) to (-1)).2) (es:=to) (x:=(gO l (a+2) to (-1)).1) with ⟨h,_⟩|⟨h,hne⟩
   ·rw[if_pos (by omega)]
    exact⟨.inr ⟨rfl,h4 ▸ hkm⟩,rfl,by simp only;omega,fun h=>by simp at h, .inr (.inr ⟨show(2:Int)≠4 by decide,show(2:Int)≠5 by decide,_,rfl,hf⟩)⟩
   ·have:=(hP _ h)
    rw[if_neg (by omega)]
    exact⟨.inl hkm,rfl,by simp only;omega,fun h=>absurd h h5, .inr (.inl ⟨h4,_,_,rfl,fun h=>hne h.symm,hf,this.1⟩)⟩
  ·next h4=>exact⟨.inl hkm,rfl,by simp only;omega,fun h=>absurd h h5, .inr (.inr ⟨h4,h5,_,rfl,hf⟩)⟩
theorem upI_mem {lo:Nat} {e:Int}:∀{k:Nat},e∈upI lo k->(lo:Int)<=e/\e<lo+k
 |0,h=>by simp[upI] at h
 |k+1,h=>by
  rw[upI,List.mem_append,List.mem_singleton] at h
  rcases h with h|h
  ·have:=upI_mem h;omega
  ·omega
structure Sz (A B n:Nat):Prop where
 a:1<=A/\A<=3
 b:B<=3
 n:A+1+B+1+2<=n/\n<=A+1+B+2+2
theorem zeroI_ex {A B n i:Nat} (h:Sz A B n) (hi:i<=A):∀e∈zeroI A n i,EX A n i 0 e/\0<=e:=by
 obtain⟨h1,h2,h3⟩:=h
 intro e he
 rw[zeroI,List.mem_append,List.mem_singleton] at he
 unfold EX zoneOf
 rcases he with he|he
 ·have:=upI_mem he
  rw[if_pos (by omega)]
  omega
 ·rw[if_pos (by omega)]
  omega
theorem oneI_ex {A B n i:Nat} (h:Sz A B n) (hi:i<A+1+B):∀e∈oneI A n i,EX A n i 1 e/\0<=e:=by
 obtain⟨h1,h2,h3⟩:=h
 intro e he
 rw[oneI,List.mem_append,List.mem_singleton] at he
 unfold EX zoneOf
 rcases he with he|he
 ·have:=upI_mem he
  rw[if_neg (by omega)]
  omega
 ·rw[if_neg (by omega)]
  omega
theorem oneI_ne {A n i:Nat}:oneI A n i≠[]:=by simp[oneI]
theorem zeroI_ne {A n i:Nat}:zeroI A n i≠[]:=by simp[zeroI]
theorem lyX_shape {l:List Int} {A B n i a:Nat} (h:Sz A B n) (hi:i<n) (nm:ByteArray):Shape A n i {(lyX l A B n i a).1 with nm:=nm}:=by
 obtain⟨h1,h2,h3⟩:=h
 have hz:=zeroI_ex (i:=i) ⟨h1,h2,h3⟩
 have ho:=oneI_ex (i:=i) ⟨h1,h2,h3⟩
 unfold lyX
 by_cases c0:i=0
 ·rw[if_pos c0]
  obtain⟨g1,g2,g3,g4,g5⟩:=gS_shape (l:=l) (a:=a) (i:=(i:Int)) (z:=0) (kinds:=[1]) (by simp) zeroI_ne (EX A n i 0) (hz (by omega))
  generalize (gS l a i 0 [1] (zeroI A n i)).1=x at*
  have hkd:x.kd=1:=by
   rcases g1 with g1|⟨_,g1⟩
   ·simpa using g1
   ·simp at g1
  refine⟨by simp only;omega,by simp only;omega,by simp only;omega,by simp only;omega,?_,fun _=>g2,by simp only;omega,fun _=>g3,by simp only;omega,by simp only;omega, .inr (.inl ⟨.inl hkd,?_⟩)⟩
  ·simp only;rw[g2,zoneOf,if_pos (by omega)]
  ·simp only
   rw[g2]
   rcases g5 with ⟨g,_⟩|⟨g,_⟩|⟨_,_,g⟩
   ·omega
   ·omega
   ·exact g
 rw[if_neg c0]
 by_cases c1:i<A
 ·rw[if_pos c1]
  obtain⟨g1,g2,g3,g4,g5⟩:=gS_shape (l:=l) (a:=a) (i:=(i:Int)) (z:=0) (kinds:=[2,3,4,5,3]) (by simp) zeroI_ne (EX A n i 0) (hz (by omega))
  generalize (gS l a i 0 [2,3,4,5,3] (zeroI A n i)).1=x at*
  have hkd:x.kd=2\/x.kd=3\/x.kd=4\/x.kd=5:=by
   rcases g1 with g1|⟨g1,_⟩
   ·simp at g1;omega
   ·exact .inl g1
  refine⟨by simp only;omega,by simp only;omega,by simp only;omega,by simp only;omega,?_,fun _=>g2,by simp only;omega,fun _=>g3,g4,by simp only;omega,?_⟩
  ·simp only;rw[g2,zoneOf,if_pos (by omega)]
  ·simp only
   rw[g2]
   rcases g5 with ⟨g,g'⟩|⟨g,g'⟩|⟨g,g'',g'⟩
   ·exact .inr (.inr (.inr (.inl ⟨g,g'⟩)))
   ·exact .inr (.inr (.inl ⟨g,g'⟩))
   ·exact .inr (.inl ⟨by omega,g'⟩)
 rw[if_neg c1]
 by_cases c2:i=A
 ·rw[if_pos c2]
  have hg:=gP_mem (l:=l) (a:=a+1) (oneI_ne (A:=A) (n:=n) (i:=i))
  have he:=(ho (by omega) _ hg).1
  have hr:=gR_lt (l:=l) (a:=a) (lo:=1) (hi:=3) (by omega)
  refine⟨by simp only;omega,by simp only;omega,fun _=>c2,by simp only;omega,?_,fun _=>rfl,by simp only;omega,fun _=>by simp only;omega,by simp only;omega,by simp only;omega, .inr (.inr (.inr (.inr ⟨rfl,_,_,rfl,?_,?_,he⟩)))⟩
  ·simp only;rw[zoneOf,if_pos (by omega)]
  ·intro h
   rw[<-h] at he
   have:=he.2.2
   rw[zoneOf,if_pos (by omega)] at this
   omega
  ·unfold EX zoneOf
   rw[if_pos (by omega)]
   omega
 rw[if_neg c2]
 by_cases c3:i<A+1+B
 ·rw[if_pos c3]
  obtain⟨g1,g2,g3,g4,g5⟩:=gS_shape (l:=l) (a:=a) (i:=(i:Int)) (z:=1) (kinds:=[2,4,5,7]) (by simp) oneI_ne (EX A n i 1) (ho c3)
  simp only
  generalize (gS l a i 1 [2,4,5,7] (oneI A n i))=x at*
  have hkd:x.1.kd=2\/x.1.kd=4\/x.1.kd=5\/x.1.kd=7:=by
   rcases g1 with g1|⟨g1,_⟩
   ·simp at g1;omega
   ·exact .inl g1
  have hzn:x.1.zn=zoneOf A n i:=by rw[g2,zoneOf,if_neg (by omega)]
  split
  ·next h7=>
   refine⟨by simp only;omega,by simp only;omega,by simp only;omega,by simp only;omega,hzn,by simp only;omega,fun _=>g2,by simp only;omega,by simp only;omega,fun _=>rfl,?_⟩
   simp only
   rw[g2]
   rcases g5 with ⟨g,g'⟩|⟨g,g'⟩|⟨g,g'',g'⟩
   ·omega
   ·omega
   ·exact .inr (.inl ⟨by omega,g'⟩)
  ·next h7=>
   refine⟨by simp only;omega,by simp only;omega,by simp only;omega,by simp only;omega,hzn,by simp only;omega,fun _=>g2,fun _=>g3,g4,by simp only;omega,?_⟩
   simp only
   rw[g2]
   rcases g5 with ⟨g,g'⟩|⟨g,g'⟩|⟨g,g'',g'⟩
   ·exact .inr (.inr (.inr (.inl ⟨g,g'⟩)))
   ·exact .inr (.inr (.inl ⟨g,g'⟩))
   ·exact .inr (.inl ⟨by omega,g'⟩)
 rw[if_neg c3]
 by_cases c4:i<n - 2
 ·rw[if_pos c4]
  refine⟨by simp only;omega,by simp only;omega,by simp only;omega,by simp only;omega,?_,by simp only;omega,fun _=>rfl,by simp only;omega,by simp only;omega,fun _=>rfl, .inl ⟨by simp only;omega,rfl⟩⟩
  simp only;rw[zoneOf,if_neg (by omega)]
 ·rw[if_neg c4]
  refine⟨by simp only;omega,by simp only;omega,by simp only;omega,by simp only;omega,?_,by simp only;omega,by simp only;omega,by simp only;omega,by simp only;omega,fun _=>rfl, .inl ⟨by simp only;omega,rfl⟩⟩
  simp only
  unfold zoneOf
  split<;>omega
theorem fixN_shape {A B n k:Nat} {x:Nd} (h:Sz A B n) (hk:k<A) (hs:Shape A n k x):Shape A n k (fixN k x):=by
 obtain⟨h1,h2,h3⟩:=h
 unfold fixN
 split
 ·next hc=>
  obtain⟨hc,hm⟩:=hc
  have hz:x.zn=0:=by rw[hs.zn,zoneOf,if_pos (by omega)]
  have hx:EX A n k x.zn ((k+1:Nat):Int):=by
   unfold EX
   rw[hz,zoneOf,if_pos (by omega)]
   omega
  refine⟨hs.kd,hs.k1,hs.k6,hs.k8,hs.zn,hs.z0,hs.z1,hs.ln,hs.l5,hs.l0,?_⟩
  rcases hs.ex with ⟨g,g'⟩|⟨g,e,g',_⟩|⟨g,e,f,g',hne,he,hf⟩|⟨g,_⟩|⟨g,_⟩
  ·have:=hs.k8 g
   omega
  ·refine .inr (.inl ⟨g,_,?_,hx⟩)
   simp only[fixX,g']
   rfl
  ·refine .inr (.inr (.inl ⟨g,_,f,?_,?_,hx,hf⟩))
   ·simp only[fixX,g']
    rfl
   ·intro h
    rw[g'] at hm
    exact hm (by rw[h];simp)
  ·exact absurd g hc
  ·have:=hs.k6 g
   omega
 ·exact hs
structure Good (A n:Nat) (y:Ly):Prop where
 sz:∃B,Sz A B n
 len:y.nodes.length=n
 shp:∀i,i<n->Shape A n i (y.nodes.getD i default)
 nm:∀i,i<n->(y.nodes.getD i default).nm=nmI i
theorem Good.n11 {A n:Nat} {y:Ly} (h:Good A n y):5<=n/\n<=11/\1<=A/\A<=3/\A+3<n:=by
 obtain⟨⟨B,⟨h1,h2⟩,h3,h4,h5⟩,_,_,_⟩:=h
 omega
theorem gL_nodes (l:List Int) (a:Nat):∃A n,Good A n (gL l a).1:=by
 have hA:=gR_lt (l:=l) (a:=a) (lo:=1) (hi:=3) (by omega)
 have hB:=gR_lt (l:=l) (a:=a+1) (lo:=0) (hi:=3) (by omega)
 have hC:=gR_lt (l:=l) (a:=a+2) (lo:=1) (hi:=2) (by omega)
 unfold gL
 simp only
 obtain⟨A,eA⟩:∃A,A=(gR l a 1 3).toNat:=⟨_,rfl⟩
 obtain⟨B,eB⟩:∃B,B=(gR l (a+1) 0 3).toNat:=⟨_,rfl⟩
 obtain⟨n,en⟩:∃n,n=A+1+B+(gR l (a+2) 1 2).toNat+2:=⟨_,rfl⟩
 rw[<-eA,<-eB,<-en]
 have hs:Sz A B n:=⟨by omega,by omega,by omega⟩
 refine⟨A,n,⟨B,hs⟩,?_,?_,?_⟩
 ·simp only
  split
  ·rw[fixL_length,lyL_length]
  ·rw[lyL_length]
 ·intro i hi
  have h1:Shape A n i ((lyL l A B n (a+3) n).1.getD i default):=by
   rw[lyL_getD n hi];exact lyX_shape hs hi _
  simp only
  split
  ·rw[fixL_getD (by rw[lyL_length];exact hi)]
   split
   ·exact fixN_shape hs (by assumption) h1
   ·exact h1
  ·exact h1
 ·intro i hi
  have h1:((lyL l A B n (a+3) n).1.getD i default).nm=nmI i:=by rw[lyL_getD n hi]
  simp only
  split
  ·rw[fixL_getD (by rw[lyL_length];exact hi)]
   split
   ·rw[fixN_ln.2.2.2];exact h1
   ·exact h1
  ·exact h1
def dlt (d e:T3):Prop:=d.b<e.b\/(d.b=e.b/\(d.c<e.c\/(d.c=e.c/\e.a<d.a)))
def DvI (xs:List Nd) (i w:Nat) (o:List T3):Prop:=
 o.Pairwise dlt/\∀d∈o,(d.a=1\/d.a=2)/\0<=d.b/\d.b<xs.length/\0<=d.c/\d.c<(xs.getD d.b.toNat default).ln/\(d.b<i\/(d.b=i/\d.c<w))
theorem dvW_inv {l:List Int} {xs:List Nd} {i:Nat} {o:List T3×Nat} (hi:i<xs.length) (h:DvI xs i 0 o.1):∀w,w<=(xs.getD i default).ln.toNat->DvI xs i w (dvW l (xs.getD i default) i o w).1
 |0,_=>h
 |w+1,hw=>by
  obtain⟨h1,h2⟩:=dvW_inv (l:=l) hi h w (by omega)
  rw[dvW]
  generalize dvW l (xs.getD i default) i o w=r at*
  have h3:(dv1 l (xs.getD i default) i w r).1.Pairwise dlt/\∀d∈(dv1 l (xs.getD i default) i w r).1,(d.a=1\/d.a=2)/\0<=d.b/\d.b<xs.length/\0<=d.c/\d.c<(xs.getD d.b.toNat default).ln/\(d.b<i\/(d.b=i/\(d.c<w\/(d.c=w/\d.a=2)))):=by
   have h2':∀d∈r.1,(d.a=1\/d.a=2)/\0<=d.b/\d.b<xs.length/\0<=d.c/\d.c<(xs.getD d.b.toNat default).ln/\(d.b<i\/(d.b=i/\(d.c<w\/(d.c=w/\d.a=2)))):=fun d hd=>by
    obtain⟨g1,g2,g3,g4,g5,g6⟩:=h2 d hd
    exact⟨g1,g2,g3,g4,g5,by omega⟩
   unfold dv1
   split
   ·split
    ·refine⟨List.pairwise_append.2 ⟨h1,by simp,fun d hd e he=>?_⟩,fun d hd=>?_⟩
     ·rw[List.mem_singleton] at he
      subst he
      obtain⟨g1,g2,g3,g4,g5,g6⟩:=h2 d hd
      unfold dlt
      simp only
      omega
     ·rcases List.mem_append.1 hd with hd|hd
      ·exact h2' d hd
      ·rw[List.mem_singleton] at hd
       subst hd
       simp only[Int.toNat_natCast]
       exact⟨.inr trivial,by omega,by omega,by omega,by omega, .inr ⟨trivial, .inr ⟨trivial,trivial⟩⟩⟩
    ·exact⟨h1,h2'⟩
   ·exact⟨h1,h2'⟩
  obtain⟨h4,h5⟩:=h3
  generalize dv1 l (xs.getD i default) i w r=s at*
  have h5':∀d∈s.1,(d.a=1\/d.a=2)/\0<=d.b/\d.b<xs.length/\0<=d.c/\d.c<(xs.getD d.b.toNat default).ln/\(d.b<i\/(d.b=i/\d.c<(w+1:Nat))):=fun d hd=>by
   obtain⟨g1,g2,g3,g4,g5,g6⟩:=h5 d hd
   exact⟨g1,g2,g3,g4,g5,by omega⟩
  unfold dv2
  split
  ·split
   ·refine⟨List.pairwise_append.2 ⟨h4,by simp,fun d hd e he=>?_⟩,fun d hd=>?_⟩
    ·rw[List.mem_singleton] at he
     subst he
     obtain⟨g1,g2,g3,g4,g5,g6⟩:=h5 d hd
     unfold dlt
     simp only
     omega
    ·rcases List.mem_append.1 hd with hd|hd
     ·exact h5' d hd
     ·rw[List.mem_singleton] at hd
      subst hd
      simp only[Int.toNat_natCast]
      exact⟨.inl trivial,by omega,by omega,by omega,by omega, .inr ⟨trivial,by omega⟩⟩
   ·exact⟨h4,h5'⟩
  ·exact⟨h4,h5'⟩
theorem dvN_inv {l:List Int} {xs:List Nd} {a:Nat} (hx:∀i,i<xs.length->0<=(xs.getD i default).ln):∀i,i<=xs.length->DvI xs i 0 (dvN l xs a i).1
 |0,_=>⟨by simp[dvN],by simp[dvN]⟩
 |i+1,hi=>by
  obtain⟨h1,h2⟩:=dvW_inv (l:=l) (by omega) (dvN_inv hx i (by omega)) _ (Nat.le_refl _)
  refine⟨h1,fun d hd=>?_⟩
  obtain⟨g1,g2,g3,g4,g5,g6⟩:=h2 d hd
  exact⟨g1,g2,g3,g4,g5,by omega⟩
theorem pw_getD {α:Type} {R:α->α->Prop} {l:List α} {d:α} (h:l.Pairwise R) {i j:Nat} (hij:i<j) (hj:j<l.length):R (l.getD i d) (l.getD j d):=by
 have:=List.pairwise_iff_getElem.1 h i j (by omega) hj hij
 simpa[hj,show i<l.length by omega] using this
theorem devE_zero {l:List Int} {xs:List Nd} {a:Nat} (hx:∀i,i<xs.length->0<=(xs.getD i default).ln):devE xs (gD l a xs).1=0:=by
 obtain⟨h1,h2⟩:=dvN_inv (l:=l) (a:=a) hx _ (Nat.le_refl _)
 rw[devE_ok fun j hj=>?_]
 ·rw[if_pos]
  refine range_all_true fun i hi=>?_
  rw[dupK,Bool.not_eq_true',List.any_eq_false]
  intro z hz hez
  rw[eqT_iff] at hez
  obtain⟨j,hj,e⟩:=List.getElem_of_mem hz
  have hji:j<i:=by rw[List.length_take] at hj;omega
  have h3:=pw_getD (d:=default) h1 hji hi
  have h4:(dvN l xs a xs.length).1.getD j default=z:=by
   rw[<-e,List.getElem_take]
   have hjl:j<(dvN l xs a xs.length).1.length:=Nat.lt_trans hji hi
   simp[hjl]
   rfl
  rw[h4,show(dvN l xs a xs.length).1.getD i default=z from hez] at h3
  unfold dlt at h3
  omega
 ·have h3:=h2 _ (mem_getD (d:=default) hj)
  show devOne xs ((dvN l xs a xs.length).1.getD j default)=0
  generalize (dvN l xs a xs.length).1.getD j default=d at*
  unfold devOne
  rw[if_neg (by omega),if_neg (by omega)]
theorem nmI_ok:∀i,i<11->nameOk (nmI i)=true:=by decide+kernel
theorem nmI_inj:∀i,i<11->∀j,j<11->nmI i=nmI j->i=j:=by decide+kernel
theorem named_good {A n:Nat} {y:Ly} (h:Good A n y):namedB y.nodes=true:=by
 have hn:=h.n11
 refine range_all_true fun i hi=>?_
 rw[h.len] at hi
 have hN:=h.len
 rw[decide_eq_true_eq,findN_idx]
 refine fi_some (d:=default) (by omega) (fun j hj=>?_) (by simp)
 rw[h.nm i hi,h.nm j (by omega),decide_eq_false_iff_not]
 intro h2
 have:=nmI_inj j (by omega) i (by omega) h2
 omega
theorem Good.node {A n:Nat} {y:Ly} (h:Good A n y) {i:Nat} (hi:i<n):nodeE n i (y.nodes.getD i default)=0:=by
 have hn:=h.n11
 have hs:=h.shp i hi
 have hm:=h.nm i hi
 generalize y.nodes.getD i default=x at*
 obtain⟨kd1,kd2⟩:=hs.kd
 have hz:x.zn=0\/x.zn=1:=by rw[hs.zn,zoneOf];split<;>simp
 have hl:lenOk x=true:=by
  have hln:=hs.ln
  have hl5:=hs.l5
  have hl0:=hs.l0
  unfold lenOk isStrip
  by_cases h6:x.kd<=6
  ·rw[if_pos (by simp;omega)]
   split
   ·simp;omega
   ·simp;omega
  ·rw[if_neg (by simp;omega)]
   simp;omega
 suffices hlead:leadP n i x=true by rw[nodeE,if_neg (by rw[hm,nmI_ok i (by omega)];decide),if_neg (by omega),if_pos ⟨hl,hz,hlead⟩]
 rw[leadP_true]
 have hb:∀b:Bool,(false==b)=!b:=by decide
 rcases hs.ex with ⟨k,g⟩|⟨k,e,g,he⟩|⟨k,e,f,g,hne,he,hf⟩|⟨k,f,g,hf⟩|⟨k,e,f,g,hne,he,hf⟩
 ·rw[g]
  refine⟨?_,fun j hj=>by simp at hj⟩
  rw[exitsN,if_neg (by omega),if_pos (by omega)];rfl
 ·refine⟨by rw[g,exitsN,if_neg (by omega),if_neg (by omega)];rfl,fun j hj=>?_⟩
  rw[g] at hj
  obtain rfl:j=0:=by simpa using hj
  obtain⟨h1,h2,_⟩:=he
  rw[leadK,g]
  simp
  refine⟨by omega,h2,by omega,by omega⟩
 ·refine⟨by rw[g,exitsN,if_pos (by omega)];rfl,fun j hj=>?_⟩
  rw[g] at hj
  obtain⟨h1,h2,_⟩:=he
  obtain⟨h3,h4,_⟩:=hf
  have:j=0\/j=1:=by simp at hj;omega
  rcases this with rfl|rfl
  ·rw[leadK,g]
   simp
   refine⟨by omega,h2,by omega,by omega⟩
  ·rw[leadK,g]
   simp
   refine⟨by omega,h4,by omega,fun h=>hne h.symm⟩
 ·refine⟨by rw[g,exitsN,if_pos (by omega)];rfl,fun j hj=>?_⟩
  rw[g] at hj
  obtain⟨h3,h4,_⟩:=hf
  have:j=0\/j=1:=by simp at hj;omega
  rcases this with rfl|rfl
  ·rw[leadK,g]
   simp[k]
   omega
  ·rw[leadK,g]
   simp
   omega
 ·refine⟨by rw[g,exitsN,if_pos (by omega)];rfl,fun j hj=>?_⟩
  rw[g] at hj
  obtain⟨h1,h2,_⟩:=he
  obtain⟨h3,h4,_⟩:=hf
  have:j=0\/j=1:=by simp at hj;omega
  rcases this with rfl|rfl
  ·rw[leadK,g]
   simp
   refine⟨by omega,h2,by omega,by omega⟩
  ·rw[leadK,g]
   simp
   refine⟨by omega,h4,by omega,fun h=>hne h.symm⟩
theorem Good.tot {A n:Nat} {y:Ly} (h:Good A n y):0<=total y.nodes/\total y.nodes<=44:=by
 have hn:=h.n11
 have:∀i,i<=n->0<=totL y.nodes i/\totL y.nodes i<=4*i:=by
  intro i
  induction i with
  |zero=>intro _;simp[totL]
  |succ i ih=>
   intro hi
   have h1:=ih (by omega)
   have hs:=h.shp i (by omega)
   have h2:=hs.ln
   have h3:=hs.l0
   have h4:=hs.kd
   rw[totL]
   omega
 have:=this n (Nat.le_refl _)
 unfold total
 rw[h.len]
 omega
theorem Good.zoned {A n:Nat} {y:Ly} (h:Good A n y) {i:Nat} (hi:i<n):zoneB y.nodes (y.nodes.getD i default)=true:=by
 have hn:=h.n11
 have hs:=h.shp i hi
 have hto:∀z e,EX A n i z e->¬(y.nodes.getD e.toNat default).kd=1/\(y.nodes.getD e.toNat default).zn=z:=by
  intro z e ⟨h1,h2,h3⟩
  obtain⟨m,rfl⟩:∃m:Nat,e=m:=⟨e.toNat,by omega⟩
  have ht:=h.shp m (by omega)
  rw[Int.toNat_natCast]
  exact⟨fun hk=>by have:=ht.k1.1 hk;omega,by rw[ht.zn,h3]⟩
 have hself:=h.shp i hi
 generalize hx:y.nodes.getD i default=x at*
 rw[zoneB,Bool.and_eq_true]
 refine⟨?_,range_all_true fun j hj=>?_⟩
 ·have h0:=hs.z0
  have h1:=hs.z1
  unfold zoneA
  split
  ·exact decide_eq_true (h0 (by assumption))
  ·split
   ·exact decide_eq_true (h1 (by assumption))
   ·rfl
 ·have key:∀e,x.ex.getD j 0=e->¬(y.nodes.getD e.toNat default).kd=1->(y.nodes.getD e.toNat default).zn=zoneW x j->zoneK y.nodes x j=true:=by
   intro e he h1 h2
   rw[zoneK,he,decide_eq_false h1,h2]
   simp
  rcases hs.ex with ⟨k,g⟩|⟨k,e,g,he⟩|⟨k,e,f,g,hne,he,hf⟩|⟨k,f,g,hf⟩|⟨k,e,f,g,hne,he,hf⟩
  ·rw[g] at hj;simp at hj
  ·rw[g] at hj
   obtain rfl:j=0:=by simpa using hj
   have:=hto _ _ he
   exact key e (by rw[g];rfl) this.1 (by rw[this.2,zoneW,if_neg (by omega)])
  ·rw[g] at hj
   have h3:=hto _ _ he
   have h4:=hto _ _ hf
   have:j=0\/j=1:=by simp at hj;omega
   rcases this with rfl|rfl
   ·exact key e (by rw[g];rfl) h3.1 (by rw[h3.2,zoneW,if_neg (by omega)])
   ·exact key f (by rw[g];rfl) h4.1 (by rw[h4.2,zoneW,if_neg (by omega)])
  ·rw[g] at hj
   have h4:=hto _ _ hf
   have:j=0\/j=1:=by simp at hj;omega
   rcases this with rfl|rfl
   ·refine key i (by rw[g];rfl) ?_ ?_
    ·rw[Int.toNat_natCast,hx];omega
    ·rw[Int.toNat_natCast,hx,zoneW,if_neg (by omega)]
   ·exact key f (by rw[g];rfl) h4.1 (by rw[h4.2,zoneW,if_neg (by omega)])
  ·rw[g] at hj
   have h3:=hto _ _ he
   have h4:=hto _ _ hf
   have hz:=hs.z0 (by omega)
   have:j=0\/j=1:=by simp at hj;omega
   rcases this with rfl|rfl
   ·exact key e (by rw[g];rfl) h3.1 (by rw[h3.2,zoneW,if_neg (by omega),hz])
   ·exact key f (by rw[g];rfl) h4.1 (by rw[h4.2,zoneW,if_pos ⟨k,rfl⟩])
def upL (n:Nat):List Int:=(List.range n).map fun(i:Nat)=>(i:Int)
theorem upL_len (n:Nat):(upL n).length=n:=by simp[upL]
theorem upL_mem {n:Nat} {k:Nat}:(k:Int)∈upL n↔k<n:=by
 simp only[upL,List.mem_map,List.mem_range]
 constructor
 ·rintro⟨a,ha,h⟩;omega
 ·intro h;exact⟨k,h,rfl⟩
theorem Good.up {A n:Nat} {y:Ly} (h:Good A n y) {k:Nat} (hk:k<n) {i:Int} (hl:leadsB (y.nodes.getD k default) k i=true):(k:Int)<i:=by
 rw[leadsB,Bool.and_eq_true,decide_eq_true_eq,decide_eq_true_eq] at hl
 obtain⟨h1,h2⟩:=hl
 rcases(h.shp k hk).ex with ⟨_,g⟩|⟨_,e,g,he⟩|⟨_,e,f,g,_,he,hf⟩|⟨_,f,g,hf⟩|⟨_,e,f,g,_,he,hf⟩
 ·rw[g] at h2;simp at h2
 ·rw[g] at h2;simp at h2;rw[h2];exact he.1
 ·rw[g] at h2;simp at h2
  rcases h2 with rfl|rfl
  ·exact he.1
  ·exact hf.1
 ·rw[g] at h2;simp at h2
  rcases h2 with rfl|rfl
  ·exact absurd rfl h1
  ·exact hf.1
 ·rw[g] at h2;simp at h2
  rcases h2 with rfl|rfl
  ·exact he.1
  ·exact hf.1
theorem Good.ord {A n:Nat} {y:Ly} (h:Good A n y):order y.nodes=upL n:=by
 have hN:=h.len
 have:∀m,m<=n->ordR y.nodes m=upL m:=by
  intro m
  induction m with
  |zero=>intro _;rfl
  |succ m ih=>
   intro hm
   have hx:nxt y.nodes (upL m)=m:=by
    refine nxF_first (by omega) ?_ fun j hj=>?_
    ·rw[rdyK_iff]
     refine⟨fun h=>by have:=upL_mem.1 h;omega,fun k hk hl=>upL_mem.2 ?_⟩
     have:=h.up (by omega) hl
     omega
    ·rw[<-Bool.not_eq_true,rdyK_iff]
     exact fun h=>h.1 (upL_mem.2 hj)
   rw[ordR,ih (by omega),hx,if_neg (by omega)]
   simp[upL,List.range_succ]
 rw[order,hN]
 exact this n (Nat.le_refl _)
def tgI (xs:List Nd) (W:List Int) (m:Nat):Int:=(xs.getD m default).ex.getD (W.getD m 0).toNat 0
def Lets (xs:List Nd) (p:Pl) (W LV:List Int) (m t:Nat):Prop:=
 isStrip (xs.getD t default).kd=false\/(openR (xs.getD t default) (p.slots.getD t [])=true/\¬((xs.getD t default).kd=5/\LV.getD t 0=0)/\∀k,k<m->cmr xs W t k=false)
def Rnd (xs:List Nd) (p:Pl) (m:Nat):Prop:=(xs.getD m default).kd=5/\(p.slots.getD m []).getD 0 0=0
def Fin (xs:List Nd) (p:Pl) (W LV:List Int) (m:Nat):Prop:=
 (W.getD m 0<0/\LV.getD m 0=-1)\/(0<=W.getD m 0/\
  ((LV.getD m 0=W.getD m 0/\tgI xs W m≠m/\Lets xs p W LV m (tgI xs W m).toNat)\/
   (¬(tgI xs W m≠m/\Lets xs p W LV m (tgI xs W m).toNat)/\((Rnd xs p m/\LV.getD m 0=0)\/(¬Rnd xs p m/\LV.getD m 0=-1)))))
open Go.Plant
structure Sx (A n:Nat) (y:Ly) (p:Pl) (cs:List Int) (fs:List T3):Prop where
 good:Good A n y
 fp:FitP y.nodes p
 ff:FitF y.nodes fs
 cl:cs.length=n
 cmd:∀i,i<n->cmdOk (y.nodes.getD i default) (cs.getD i 0)=true
section
variable {A n:Nat} {y:Ly} {p:Pl} {cs:List Int} {fs:List T3}
theorem Good.exl (h:Good A n y) {m:Nat} (hm:m<n):((y.nodes.getD m default).ex.length:Int)=exitsN (y.nodes.getD m default).kd:=by
 have:=h.node hm
 rw[nodeE] at this
 split at this
 ·cases this
 ·split at this
  ·cases this
  ·split at this
   ·rename_i h2
    exact(leadP_true.1 h2.2.2).1
   ·cases this
def goesTo (xs:List Nd) (LV:List Int) (m:Nat):Int:=(xs.getD m default).ex.getD (LV.getD m 0).toNat 0
end
open Go.Plant
section
variable {xs:List Nd} {p:Pl} {cs:List Int} {fs:List T3} {LV:List Int}
def mvOf (xs:List Nd) (p:Pl) (cs:List Int) (fs:List T3) (LV:List Int) (m:Nat):T3:=⟨bagOf xs p cs fs LV m,m,goesTo xs LV m⟩
theorem st1_len1:∀i,(st1 xs p cs fs LV i).1.length=p.slots.length
 |0=>rfl
 |i+1=>by rw[st1];simp only;split<;>simp[st1_len1 i]
theorem st1_mv:∀i,(st1 xs p cs fs LV i).2.2=((List.range i).filter fun m=>decide (0<=LV.getD m 0)).map (mvOf xs p cs fs LV)
 |0=>rfl
 |i+1=>by
  rw[st1,List.range_succ,List.filter_append,List.map_append,<-st1_mv i]
  simp only
  split
  ·rename_i h
   rw[List.filter_cons_of_pos (by exact decide_eq_true h)];rfl
  ·rename_i h
   rw[List.filter_cons_of_neg (by simpa only[decide_eq_true_eq] using h)];simp
end
section
variable {A n:Nat} {y:Ly} {p:Pl} {cs:List Int} {fs:List T3}
end
open Go.Plant
def sumN (f:Nat->Nat):Nat->Nat
 |0=>0
 |k+1=>sumN f k+f k
theorem sumN_congr {f g:Nat->Nat}:∀{k},(∀i,i<k->f i=g i)->sumN f k=sumN g k
 |0,_=>rfl
 |k+1,h=>by rw[sumN,sumN,sumN_congr fun i hi=>h i (by omega),h k (by omega)]
theorem sumN_add {f g:Nat->Nat}:∀k,sumN (fun i=>f i+g i) k=sumN f k+sumN g k
 |0=>rfl
 |k+1=>by rw[sumN,sumN,sumN,sumN_add k];omega
def rowP (p:Pl) (t:Nat):List Int:=nz (p.slots.getD t [])++p.bins.getD t []
def allB (p:Pl):Nat->List Int
 |0=>[]
 |t+1=>allB p t++rowP p t
theorem allB_count (p:Pl) (b:Int):∀N,(allB p N).count b=sumN (fun t=>(rowP p t).count b) N
 |0=>rfl
 |N+1=>by rw[allB,List.count_append,allB_count p b N];rfl
theorem allB_mem {p:Pl} {b:Int}:∀{N},b∈allB p N↔∃t,t<N/\b∈rowP p t
 |0=>by simp[allB]
 |N+1=>by
  rw[allB,List.mem_append,allB_mem]
  constructor
  ·rintro(⟨t,h,h2⟩|h)
   ·exact⟨t,by omega,h2⟩
   ·exact⟨N,by omega,h⟩
  ·rintro⟨t,h,h2⟩
   by_cases ht:t=N
   ·subst ht;exact .inr h2
   ·exact .inl ⟨t,by omega,h2⟩
structure PInv (y:Ly) (p:Pl) (L:List Int):Prop where
 fp:FitP y.nodes p
 perm:(allB p y.nodes.length).Perm L
 srt:∀t,t<y.nodes.length->(p.bins.getD t []).Pairwise (·<=·)
structure LOk (L:List Int):Prop where
 nd:L.Nodup
 pos:∀b∈L,1<=b/\b<=40
 len:L.length<=40
section
variable {A n:Nat} {y:Ly} {p:Pl} {cs:List Int} {fs:List T3} {L:List Int}
theorem PInv.mem (h:PInv y p L) {b:Int}:b∈allB p y.nodes.length↔b∈L:=h.perm.mem_iff
theorem PInv.rowpos (h:PInv y p L) (hL:LOk L) {t:Nat} (ht:t<y.nodes.length) {b:Int} (hb:b∈rowP p t):1<=b/\b<=40:=
 hL.pos b (h.mem.1 (allB_mem.2 ⟨t,ht,hb⟩))
theorem PInv.binpos (h:PInv y p L) (hL:LOk L) {t:Nat} (ht:t<y.nodes.length):∀b∈p.bins.getD t [],b≠0:=fun b hb=>by
 have:=h.rowpos hL ht (b:=b) (List.mem_append.2 (.inr hb));omega
end
open Go.Plant
def upF (b:Int) (k:Nat):List Int:=(List.range k).map fun(i:Nat)=>b+i
theorem upF_succ (b:Int) (k:Nat):upF b (k+1)=upF b k++[b+k]:=by simp[upF,List.range_succ]
theorem upF_len (b:Int) (k:Nat):(upF b k).length=k:=by simp[upF]
theorem upF_mem {b e:Int} {k:Nat}:e∈upF b k↔b<=e/\e<b+k:=by
 simp only[upF,List.mem_map,List.mem_range]
 constructor
 ·rintro⟨i,h,rfl⟩;omega
 ·rintro⟨h1,h2⟩;exact⟨(e - b).toNat,by omega,by omega⟩
theorem upF_add (b:Int) (j:Nat):∀k,upF b (j+k)=upF b j++upF (b+j) k
 |0=>by simp[upF]
 |k+1=>by
  rw[<-Nat.add_assoc,upF_succ,upF_succ,upF_add b j k,List.append_assoc]
  congr 3
  omega
theorem upF_nodup (b:Int) (k:Nat):(upF b k).Nodup:=by
 unfold upF
 exact List.nodup_range.map (f:=fun(i:Nat)=>b+(i:Int)) (fun i j h hne=>h (by omega))
theorem free_nz (s:List Int):free s+(nz s).length=s.length:=by
 unfold free nz
 induction s with
 |nil=>rfl
 |cons b r ih=>
  by_cases h:b=0
  ·subst h;simp at ih ⊢;omega
  ·simp[h] at ih ⊢;omega
theorem pwk_inv {l:List Int} {s:PW} {ln:Nat} (hw:s.w=List.replicate ln 0) (hb:1<=s.bag):∀k,k<=ln->∃u j,(pwk l s k).w=u++List.replicate (ln - k) 0/\u.length=k/\nz u=upF s.bag j/\(pwk l s k).bag=s.bag+j/\(pwk l s k).full=s.full - j/\(j=0\/(j:Int)<=s.full)
 |0,_=>⟨[],0,by simp[pwk,hw],rfl,rfl,by simp[pwk],by simp[pwk], .inl rfl⟩
 |k+1,hk=>by
  obtain⟨u,j,h1,h2,h3,h4,h5,h6⟩:=pwk_inv (l:=l) hw hb k (by omega)
  rw[pwk]
  generalize pwk l s k=r at*
  have er:List.replicate (ln - k) (0:Int)=0::List.replicate (ln - (k+1)) 0:=by
   rw[show ln - k=(ln - (k+1))+1 by omega,List.replicate_succ]
  have same:∃u' j',r.w=u'++List.replicate (ln - (k+1)) 0/\u'.length=k+1/\nz u'=upF s.bag j'/\r.bag=s.bag+j'/\r.full=s.full - j'/\(j'=0\/(j':Int)<=s.full):=
   ⟨u++[0],j,by rw[h1,er];simp,by simp[h2],by rw[nz_append,h3];simp,h4,h5,h6⟩
  unfold pw1
  split
  ·rename_i hc
   split
   ·refine⟨u++[r.bag],j+1,?_,by simp[h2],?_,by simp only;omega,by simp only;omega, .inr (by omega)⟩
    ·simp only
     rw[h1,er,List.set_append_right _ _ (by omega),h2]
     simp
    ·rw[nz_append,h3,nz_cons (by omega),upF_succ,h4];rfl
   ·exact same
  ·exact same
theorem allB_congr {p q:Pl}:∀{N},(∀t,t<N->rowP p t=rowP q t)->allB p N=allB q N
 |0,_=>rfl
 |N+1,h=>by rw[allB,allB,allB_congr fun t ht=>h t (by omega),h N (by omega)]
theorem getD_snoc {α:Type} {l:List α} {x d:α} {t:Nat}:(l++[x]).getD t d=if t<l.length then l.getD t d else if t=l.length then x else d:=by
 simp only[List.getD_eq_getElem?_getD,List.getElem?_append]
 split
 ·rfl
 ·split
  ·rename_i h;subst h;simp
  ·rw[List.getElem?_eq_none (by simp;omega)];rfl
structure PnOk (xs:List Nd) (s:PN) (i:Nat):Prop where
 bag:1<=s.bag
 sl:s.slots.length=i
 bl:s.bins.length=i
 all:allB ⟨s.slots,s.bins⟩ i=upF 1 (s.bag - 1).toNat
 row:∀t,t<i->(s.slots.getD t []).length=(xs.getD t default).ln.toNat/\((xs.getD t default).kd=5->1<=free (s.slots.getD t []))/\(s.bins.getD t []).length<=1
theorem pns_inv {l:List Int} {xs:List Nd} {n:Int} {a:Nat} (hx:∀i,i<xs.length->0<=(xs.getD i default).ln/\((xs.getD i default).kd=5->2<=(xs.getD i default).ln)):∀i,i<=xs.length->PnOk xs (pns l xs n a i) i
 |0,_=>⟨Int.le_refl _,rfl,rfl,rfl,fun t h=>absurd h (Nat.not_lt_zero _)⟩
 |i+1,hi=>by
  obtain⟨h1,h2,h3,h4,h5⟩:=pns_inv (l:=l) (n:=n) (a:=a) hx i (by omega)
  have hxi:=hx i (by omega)
  rw[pns]
  generalize pns l xs n a i=s at*
  generalize hxe:xs.getD i default=x at*
  obtain⟨u,j,g1,g2,g3,g4,g5,g6⟩:=pwk_inv (l:=l) (s:=pw0 x s) (ln:=x.ln.toNat) rfl h1 _ (Nat.le_refl _)
  generalize pwk l (pw0 x s) x.ln.toNat=r at*
  have e0:(pw0 x s).bag=s.bag:=rfl
  have ef:(pw0 x s).full=if x.kd=5 then x.ln - 1 else x.ln:=rfl
  rw[e0] at g3 g4
  simp only[Nat.sub_self,List.replicate_zero,List.append_nil] at g1
  have hwl:r.w.length=x.ln.toNat:=by rw[g1,g2]
  have hnz:nz r.w=upF s.bag j:=by rw[g1,g3]
  have hfree:x.kd=5->1<=free r.w:=fun h5=>by
   have e1:=free_nz r.w
   rw[hwl,hnz,upF_len] at e1
   have:=hxi.2 h5
   rw[ef,if_pos h5] at g6
   omega
  have key:∀(bin:List Int) (b:Int) (k:Nat) (nn:Int) (aa:Nat),bin=upF r.bag k->k<=1->b=r.bag+k->PnOk xs ⟨s.slots++[r.w],s.bins++[bin],b,nn,aa⟩ (i+1):=by
   intro bin b k nn aa hbin hk hb
   have hrow:∀t,t<i->rowP ⟨s.slots++[r.w],s.bins++[bin]⟩ t=rowP ⟨s.slots,s.bins⟩ t:=fun t ht=>by
    simp only[rowP,getD_snoc,h2,h3,if_pos ht]
   have hrow2:rowP ⟨s.slots++[r.w],s.bins++[bin]⟩ i=nz r.w++bin:=by
    simp only[rowP,getD_snoc,h2,h3,Nat.lt_irrefl,if_false,if_true]
   refine⟨by simp only;omega,by simp[h2],by simp[h3],?_,fun t ht=>?_⟩
   ·simp only
    rw[allB,allB_congr hrow,h4,hrow2,hnz,hbin,g4]
    rw[show(b - 1).toNat=(s.bag - 1).toNat+(j+k) by omega,upF_add,upF_add,show(1:Int)+((s.bag - 1).toNat:Nat)=s.bag by omega]
   ·simp only[getD_snoc,h2,h3]
    by_cases ht2:t<i
    ·rw[if_pos ht2,if_pos ht2];exact h5 t ht2
    ·have:t=i:=by omega
     subst this
     rw[if_neg ht2,if_neg ht2,if_pos rfl,if_pos rfl,hxe]
     exact⟨hwl,hfree,by rw[hbin,upF_len];exact hk⟩
  unfold pn2
  split
  ·split
   ·exact key _ _ 1 _ _ (by simp[upF]) (Nat.le_refl _) (by simp)
   ·exact key _ _ 0 _ _ (by simp[upF]) (by omega) (by simp)
  ·exact key _ _ 0 _ _ (by simp[upF]) (by omega) (by simp)
structure GenP (y:Ly) (p:Pl) (m:Nat):Prop where
 inv:PInv y p (upF 1 m)
 lp:∀t,t<y.nodes.length->(y.nodes.getD t default).kd=5->1<=free (p.slots.getD t [])
theorem upF_ok {m:Nat} (h:m<=40):LOk (upF 1 m):=⟨upF_nodup _ _,fun b hb=>by have:=upF_mem.1 hb;omega,by rw[upF_len];exact h⟩
theorem gPl_gen {A N:Nat} {y:Ly} (hg:Good A N y) (l:List Int) (a:Nat) (n:Int) (hn:0<=n):∃m:Nat,(m:Int)<=n/\allB (gPl l a y.nodes n).1 y.nodes.length=upF 1 m/\GenP y (gPl l a y.nodes n).1 m:=by
 have hN:=hg.n11
 have hl:=hg.len
 have hx:∀i,i<y.nodes.length->0<=(y.nodes.getD i default).ln/\(y.nodes.getD i default).ln<=4/\((y.nodes.getD i default).kd=5->2<=(y.nodes.getD i default).ln):=fun i hi=>by
  have hs:=hg.shp i (by omega)
  have h1:=hs.ln
  have h2:=hs.l5
  have h3:=hs.l0
  omega
 have h1:=pns_inv (l:=l) (n:=n) (a:=a) (fun i hi=>⟨(hx i hi).1,(hx i hi).2.2⟩) y.nodes.length (Nat.le_refl _)
 have h2:=pns_ok (l:=l) (a:=a) hn (fun i hi=>(hx i hi).1) y.nodes.length (Nat.le_refl _)
 obtain⟨g1,g2,g3,g4,g5⟩:=h1
 refine⟨((pns l y.nodes n a y.nodes.length).bag - 1).toNat,by omega,g4,⟨⟨by omega,g2,g3,fun t ht=>(g5 t ht).1,fun t ht=>?_,fun t ht=>?_,fun t ht hs=>?_,fun t ht=>?_⟩,?_,fun t ht=>?_⟩,fun t ht=>(g5 t ht).2.1⟩
 ·have:=(g5 t ht).2.2
  show((pns l y.nodes n a y.nodes.length).bins.getD t []).length<=500
  omega
 ·have:=hx t ht;omega
 ·have hs2:=(hg.shp t (by omega)).ln
  rw[isStrip,Bool.and_eq_true,decide_eq_true_eq,decide_eq_true_eq] at hs
  exact(hs2 hs.2).1
 ·have:=hg.exl (m:=t) (by omega)
  rw[exitsN] at this
  split at this
  ·omega
  ·split at this<;>omega
 ·show(allB ⟨_,_⟩ _).Perm _
  rw[g4]
 ·have:=(g5 t ht).2.2
  show((pns l y.nodes n a y.nodes.length).bins.getD t []).Pairwise (·<=·)
  generalize (pns l y.nodes n a y.nodes.length).bins.getD t []=b at*
  match b,this with
  |[],_=>exact .nil
  |[x],_=>simp
  |x::z::w,h=>simp at h
open Go.Plant
theorem bagF_eq (s:List Int):∀c,c<=s.length->bagF s c=(nz (s.drop (s.length - c))).reverse
 |0,_=>by rw[bagF,Nat.sub_zero,List.drop_length];rfl
 |c+1,h=>by
  have hi:s.length - 1 - c<s.length:=by omega
  rw[bagF,bagF_eq s c (by omega),show s.length - (c+1)=s.length - 1 - c by omega,List.drop_eq_getElem_cons hi,show s.length - 1 - c+1=s.length - c by omega]
  have e:s.getD (s.length - 1 - c) 0=s[s.length - 1 - c]:=by simp[hi]
  rw[e]
  by_cases h0:s[s.length - 1 - c]=0
  ·rw[h0,nz_zero,if_neg (by simp),List.append_nil]
  ·rw[nz_cons h0,if_pos h0,List.reverse_cons]
theorem bags_eq (s:List Int):bags s=(nz s).reverse:=by
 rw[bags,bagF_eq s s.length (Nat.le_refl _),Nat.sub_self,List.drop_zero]
section
variable {A n:Nat} {y:Ly} {p:Pl} {cs:List Int} {fs:List T3}
end
open Go.Plant
theorem mem_nz {s:List Int} {b:Int} (h0:b≠0):b∈nz s↔b∈s:=by rw[nz,List.mem_filter];simp[h0]
theorem mem_at {l:List (List Int)} {n:Nat} {b:Int} (hn:n<l.length) (h:b∈l[n]):b∈l.getD n []:=by
 rw[List.getD_eq_getElem?_getD,List.getElem?_eq_getElem hn];exact h
theorem whereP_some {p:Pl} {b:Int} {N:Nat} (hs:p.slots.length=N) (hb:p.bins.length=N) (h0:b≠0) (h:(whereP p b).2.2=true):∃t:Nat,t<N/\(whereP p b).1=t/\b∈rowP p t:=by
 unfold whereP at h ⊢
 rw[if_neg h0] at h ⊢
 cases e1:p.slots.findIdx? fun r=>decide (b∈r) with
 |some n=>
  obtain⟨hn,h1,_⟩:=List.findIdx?_eq_some_iff_getElem.1 e1
  refine⟨n,by omega,rfl,List.mem_append.2 (.inl ((mem_nz h0).2 (mem_at hn (by simpa using h1))))⟩
 |none=>
  rw[e1] at h
  cases e2:p.bins.findIdx? fun r=>decide (b∈r) with
  |some n=>
   obtain⟨hn,h1,_⟩:=List.findIdx?_eq_some_iff_getElem.1 e2
   refine⟨n,by omega,rfl,List.mem_append.2 (.inr (mem_at hn (by simpa using h1)))⟩
  |none=>rw[e2] at h;cases h
theorem whereP_none {p:Pl} {b:Int} {N:Nat} (hs:p.slots.length=N) (hb:p.bins.length=N) (h0:b≠0) (h:(whereP p b).2.2=false) {t:Nat} (ht:t<N):b∉rowP p t:=by
 unfold whereP at h
 rw[if_neg h0] at h
 cases e1:p.slots.findIdx? fun r=>decide (b∈r) with
 |some n=>rw[e1] at h;cases h
 |none=>
  rw[e1] at h
  cases e2:p.bins.findIdx? fun r=>decide (b∈r) with
  |some n=>rw[e2] at h;cases h
  |none=>
   rw[List.findIdx?_eq_none_iff] at e1 e2
   intro hm
   rcases List.mem_append.1 hm with hm|hm
   ·have:=e1 _ (mem_getD (l:=p.slots) (d:=[]) (show t<p.slots.length by omega))
    exact absurd ((mem_nz h0).1 hm) (by simpa using this)
   ·have:=e2 _ (mem_getD (l:=p.bins) (d:=[]) (show t<p.bins.length by omega))
    exact absurd hm (by simpa using this)
section
variable {A n:Nat} {y:Ly} {p:Pl} {cs:List Int} {fs:List T3} {L:List Int}
theorem bagP_eq {m:Nat} (h:PInv y p (upF 1 m)):∀c,bagP p c=upF 1 (min c m)
 |0=>by rw[Nat.zero_min];rfl
 |c+1=>by
  have h0:((c+1:Nat):Int)≠0:=by omega
  rw[bagP,bagP_eq h c]
  cases e:(whereP p ((c+1:Nat):Int)).2.2 with
  |true=>
   obtain⟨t,ht,_,hm⟩:=whereP_some h.fp.sl h.fp.bl h0 e
   have:=upF_mem.1 (h.mem.1 (allB_mem.2 ⟨t,ht,hm⟩))
   rw[if_pos rfl,show min (c+1) m=min c m+1 by omega,upF_succ,show min c m=c by omega]
   congr 2;omega
  |false=>
   have:¬c+1<=m:=fun hc=>by
    obtain⟨t,ht,hm⟩:=allB_mem.1 (h.mem.2 (upF_mem.2 (show(1:Int)<=((c+1:Nat):Int)/\((c+1:Nat):Int)<1+m by omega)))
    exact absurd hm (whereP_none h.fp.sl h.fp.bl h0 e ht)
   rw[if_neg (by simp),List.append_nil,show min (c+1) m=min c m by omega]
theorem bagsP_eq {m:Nat} (h:PInv y p (upF 1 m)) (hm:m<=40):bagsP p=upF 1 m:=by
 rw[bagsP,bagP_eq h,Nat.min_eq_right hm]
end
open Go.Plant
section
variable {α:Type} {f:α->α} {l:List α} {k:Nat} {d:α}
end
def b20 (x:Int):Int:=x+20
def rnB (r:List Int):List Int:=r.map b20
def nodesE (xs:List Nd):Int:=match (List.range xs.length).find? (fun(i:Nat)=>!decide (nodeE xs.length i (xs.getD i default)=0)) with
 |some i=>nodeE xs.length i (xs.getD i default)
 |none=>0
theorem nodesE_bad {xs:List Nd} {i:Nat} (hi:i<xs.length) (h:∀j,j<i->nodeE xs.length j (xs.getD j default)=0) (hb:¬nodeE xs.length i (xs.getD i default)=0):nodesE xs=nodeE xs.length i (xs.getD i default):=by
 have:((List.range xs.length).find? fun(i:Nat)=>!decide (nodeE xs.length i (xs.getD i default)=0))=some i:=by
  rw[List.find?_eq_some_iff_getElem]
  refine⟨by simpa using hb,i,by simpa using hi,by simp,fun j hj=>?_⟩
  have:=h j hj
  simp only[List.getElem_range]
  simpa using this
 rw[nodesE,this]
theorem nodesE_ok {xs:List Nd} (h:∀j,j<xs.length->nodeE xs.length j (xs.getD j default)=0):nodesE xs=0:=by
 have:((List.range xs.length).find? fun(i:Nat)=>!decide (nodeE xs.length i (xs.getD i default)=0))=none:=by
  rw[List.find?_eq_none]
  intro i hi
  have:=h i (List.mem_range.1 hi)
  simpa using this
 rw[nodesE,this]
def entB (xs:List Nd):Bool:=xs.any fun x=>decide (x.kd=1)
def zonesB (xs:List Nd):Bool:=(List.range xs.length).all fun i=>zoneB xs (xs.getD i default)
def validE (y:Ly):Int:=
 if 24<y.nodes.length\/24<y.devs.length then 2
 else if ¬nodesE y.nodes=0 then nodesE y.nodes
 else if 80<total y.nodes then 2
 else if namedB y.nodes=false then 5
 else if zonesB y.nodes=false then 7
 else if(order y.nodes).length<y.nodes.length then 9
 else if ¬devE y.nodes y.devs=0 then devE y.nodes y.devs
 else if entB y.nodes=false then 6 else 0
theorem nodeE_len {N i:Int} {x:Nd} (h:nodeE N i x=0):0<=x.ln/\x.ln<=8/\leadP N i x=true:=by
 rw[nodeE] at h
 split at h
 ·cases h
 ·split at h
  ·cases h
  ·split at h
   ·rename_i h2
    obtain⟨h3,_,h4⟩:=h2
    refine⟨?_,?_,h4⟩<;>(unfold lenOk at h3;split at h3<;>(try split at h3)<;>simp at h3<;>omega)
   ·cases h
theorem nodeE_ex {N i:Int} {x:Nd} (h:nodeE N i x=0):∀k,k<x.ex.length->0<=x.ex.getD k 0/\x.ex.getD k 0<N:=by
 have:=(leadP_true.1 (nodeE_len h).2.2).2
 intro k hk
 have:=this k hk
 simp only[leadK,Bool.and_eq_true,decide_eq_true_eq] at this
 exact⟨this.1,this.2.1⟩
theorem ent_sat (x:Nd):SatG Tryz.prog tab 108 [] [x.av] [] (B (decide (x.kd=1))):=by
 refine uFN Tryz.func108 Tryz.ntmps108 ?_;intro w e X hC
 repeat refine uA ?_
 (refine awp_ret (ret1 uRT ?_);try rfl)
structure Sml7 (y:Ly):Prop where
 n:y.nodes.length<=1000
 d:y.devs.length<=1000
 x:∀i,i<y.nodes.length->(y.nodes.getD i default).ex.length<=1000
 nm:∀i,i<y.nodes.length->(bs (y.nodes.getD i default).nm).length<=1000
theorem validate_sat (y:Ly) (hs:Sml7 y):SatG Tryz.prog tab 62 [] [y.av] [] (I (validE y)):=by
 obtain⟨hN,hD,hx,hnm⟩:=hs
 have hnode:=fun i hi=>lnode_sat y i hi hN (hx i hi) (hnm i hi)
 have htot:=ltotal_sat y hN
 have hnam:=lnamed_sat y hN
 have hzon:=fun i hi=>lzoned_sat y i hi hN (hx i hi)
 have hsrt:=sorted_sat y hN hx
 have hdev:=ldevices_sat y hN hD
 have hcx:=cxfM_sat y.nodes 108 (fun x=>decide (x.kd=1)) hN (fun x _=>ent_sat x)
 have hE:validE y=_:=validE.eq_1 y
 generalize validE y=r at*
 refine uFN Tryz.func62 Tryz.ntmps62 ?_;intro w e X hC
 repeat refine uA ?_
 cases d1:decide (24<(y.nodes.length:Int)) with
 |true=>
  have h1:=of_decide_eq_true d1
  rw[if_pos (.inl (by omega))] at hE
  subst hE
  repeat first|refine uC ?_|refine uA1 @d1 ?_
  (refine awp_ret (ret1 uRT ?_);try rfl)
 |false=>
 have h1:=of_decide_eq_false d1
 cases d2:decide (24<(y.devs.length:Int)) with
 |true=>
  have h2:=of_decide_eq_true d2
  rw[if_pos (.inr (by omega))] at hE
  subst hE
  repeat first|refine uC ?_|refine uA1 (uI @d1 @d2) ?_
  (refine awp_ret (ret1 uRT ?_);try rfl)
 |false=>
 have h2:=of_decide_eq_false d2
 rw[if_neg (by omega)] at hE
 refine uR1 (uI @d1 @d2) ?_;intro K hK
 refine hK _ ?_;clear hK K
 refine uF ?_
 repeat refine uA ?_
 refine uW ?_
 refine awp_loopW (fun q:Nat×Nat=>⟨[(1, .ptO 101 1 0 0 0),(19,I y.nodes.length),(20,I q.2)],(101,some (1, .box [.sl (nds y.nodes) false, .sl (t3s y.devs) false]))::[],q.1⟩) (fun q=>q.2<=y.nodes.length/\∀j,j<q.2->nodeE y.nodes.length j (y.nodes.getD j default)=0) (fun q=>y.nodes.length - q.2) (_,0) ⟨Nat.zero_le _,fun j hj=>absurd hj (Nat.not_lt_zero _)⟩ (uKF) ?_
 rintro⟨ck,k⟩ ⟨hk,hj⟩
 simp only at hk hj
 repeat refine uA ?_
 refine uW ?_;refine condP _ rfl (fun h=>?_) (fun h=>?_)
 ·have hlt:k<y.nodes.length:=by omega
  have hbad:=nodesE_bad hlt hj
  have hsat:=hnode k hlt
  have hgood:nodeE y.nodes.length k (y.nodes.getD k default)=0->∀j,j<k+1->nodeE y.nodes.length j (y.nodes.getD j default)=0:=fun h j hj'=>by
   by_cases hji:j=k
   ·subst hji;exact h
   ·exact hj j (by omega)
  generalize nodeE y.nodes.length k (y.nodes.getD k default)=e at*
  refine uA ?_
  refine uR ?_;intro K hK
  refine callF uTS (hsat) uTS uTS uTS ?_;refine uS ?_
  refine hK _ ?_;clear hK K
  repeat refine uA ?_
  refine uW ?_;refine condP _ rfl (fun c1=>?_) (fun c1=>?_)
  ·rw[if_pos (by rw[hbad c1];exact c1),hbad c1] at hE
   subst hE
   repeat refine uA ?_
   (refine awp_ret (ret1 uRT ?_);try rfl)
  ·repeat refine uA ?_
   refine⟨(_,k+1),⟨by simp only;omega,hgood (Decidable.byContradiction c1)⟩,by simp only;omega,uKF⟩
 ·refine awp_exit ?_
  obtain rfl:k=y.nodes.length:=by omega
  rw[if_neg (by rw[nodesE_ok hj];simp)] at hE
  replace htot:=htot fun i hi=>⟨(nodeE_len (hj i hi)).1,by have:=(nodeE_len (hj i hi)).2.1;omega⟩
  replace hzon:=fun i hi=>hzon i hi fun k hk=>nodeE_ex (hj i hi) k hk
  replace hsrt:=hsrt fun i hi k hk=>nodeE_ex (hj i hi) k hk
  clear hj hnode
  have hzB:zonesB y.nodes=_:=zonesB.eq_1 y.nodes
  generalize total y.nodes=t at*
  generalize namedB y.nodes=nb at*
  generalize zonesB y.nodes=zb at*
  generalize order y.nodes=o at*
  generalize devE y.nodes y.devs=de at*
  have heB:entB y.nodes=_:=entB.eq_1 y.nodes
  rw[<-heB] at hcx
  generalize entB y.nodes=eb at*
  refine uR ?_;intro K hK
  refine callF uTS (htot) uTS uTS uTS ?_;refine uS ?_
  refine hK _ ?_;clear hK K
  refine uW ?_;refine condP _ rfl (fun c1=>?_) (fun c1=>?_)
  ·rw[if_pos c1] at hE
   subst hE
   repeat refine uA ?_
   (refine awp_ret (ret1 uRT ?_);try rfl)
  rw[if_neg c1] at hE
  refine uR ?_;intro K hK
  refine callF uTS (hnam) uTS uTS uTS ?_;refine uS ?_
  refine hK _ ?_;clear hK K
  cases nb with
  |false=>
   rw[if_pos rfl] at hE
   subst hE
   refine uT ?_
   repeat refine uA ?_
   (refine awp_ret (ret1 uRT ?_);try rfl)
  |true=>
  rw[if_neg (by decide)] at hE
  refine uF ?_
  repeat refine uA ?_
  refine uW ?_
  refine awp_loopW (fun q:Nat×Nat=>⟨[(1, .ptO 101 1 0 0 0),(40,I y.nodes.length),(41,I q.2)],(101,some (1, .box [.sl (nds y.nodes) false, .sl (t3s y.devs) false]))::[],q.1⟩) (fun q=>q.2<=y.nodes.length/\∀j,j<q.2->zoneB y.nodes (y.nodes.getD j default)=true) (fun q=>y.nodes.length - q.2) (_,0) ⟨Nat.zero_le _,fun j hj=>absurd hj (Nat.not_lt_zero _)⟩ (uKF) ?_
  rintro⟨ck2,k⟩ ⟨hk,hj⟩
  simp only at hk hj
  repeat refine uA ?_
  refine uW ?_;refine condP _ rfl (fun h2=>?_) (fun h2=>?_)
  ·have hlt:k<y.nodes.length:=by omega
   have hbad:=range_all_false (p:=fun i=>zoneB y.nodes (y.nodes.getD i default)) hlt
   try simp only at hbad
   rw[<-hzB] at hbad
   have hsat:=hzon k hlt
   have hgood:zoneB y.nodes (y.nodes.getD k default)=true->∀j,j<k+1->zoneB y.nodes (y.nodes.getD j default)=true:=fun h j hj'=>by
    by_cases hji:j=k
    ·subst hji;exact h
    ·exact hj j (by omega)
   generalize zoneB y.nodes (y.nodes.getD k default)=e at*
   refine uA ?_
   refine uR ?_;intro K hK
   refine callF uTS (hsat) uTS uTS uTS ?_;refine uS ?_
   refine hK _ ?_;clear hK K
   cases e with
   |false=>
    rw[if_pos (hbad rfl)] at hE
    subst hE
    refine uT ?_
    repeat refine uA ?_
    (refine awp_ret (ret1 uRT ?_);try rfl)
   |true=>
    refine uF ?_
    repeat refine uA ?_
    refine⟨(_,k+1),⟨by simp only;omega,hgood rfl⟩,by simp only;omega,uKF⟩
  ·refine awp_exit ?_
   rw[if_neg (by rw[hzB,range_all_true fun j hj'=>hj j (by omega)];decide)] at hE
   clear hj
   refine uE ?_;intro K hK
   refine callP uTS (hsrt) uTS uTS uTS ?_;refine uS ?_
   refine uH ?_
   refine hK _ ?_;clear hK K
   refine uW ?_;refine condP _ rfl (fun c2=>?_) (fun c2=>?_)
   ·rw[if_pos (by omega)] at hE
    subst hE
    repeat refine uA ?_
    (refine awp_ret (ret1 uRT ?_);try rfl)
   rw[if_neg (by omega)] at hE
   refine uR ?_;intro K hK
   refine callF uTS (hdev) uTS uTS uTS ?_;refine uS ?_
   refine hK _ ?_;clear hK K
   repeat refine uA ?_
   refine uW ?_;refine condP _ rfl (fun c3=>?_) (fun c3=>?_)
   ·rw[if_pos c3] at hE
    subst hE
    repeat refine uA ?_
    (refine awp_ret (ret1 uRT ?_);try rfl)
   rw[if_neg c3] at hE
   refine uR ?_;intro K hK
   refine callP uTS (hcx) uTS uTS uTS ?_;refine uS ?_
   refine hK _ ?_;clear hK K
   cases eb with
   |false=>
    rw[if_pos rfl] at hE
    subst hE
    refine uT ?_
    repeat refine uA ?_
    (refine awp_ret (ret1 uRT ?_);try rfl)
   |true=>
    rw[if_neg (by decide)] at hE
    subst hE
    refine uF ?_
    repeat refine uA ?_
    (refine awp_ret (ret1 uRT ?_);try rfl)
open Go.Plant
theorem lorder_sat (y:Ly) (hs:Sml7 y) (hv:validE y=0) (hr:∀i,i<y.nodes.length->∀j,j<(y.nodes.getD i default).ex.length->0<=(y.nodes.getD i default).ex.getD j 0/\(y.nodes.getD i default).ex.getD j 0<y.nodes.length):
  SatG Tryz.prog tab 76 [] [y.av] [] (IS (order y.nodes)):=by
 have h1:=validate_sat y hs
 rw[hv] at h1
 have h2:=sorted_sat y hs.n hs.x hr
 refine uFN Tryz.func76 Tryz.ntmps76 ?_;intro w e X hC
 refine uA ?_
 refine uR ?_;intro K hK
 refine callF uTS (h1) uTS uTS uTS ?_;refine uS ?_
 refine hK _ ?_;clear hK K
 refine uF ?_
 refine uR ?_;intro K hK
 refine callP uTS (h2) uTS uTS uTS ?_;refine uS ?_
 refine hK _ ?_;clear hK K
 (refine awp_ret (ret1 uRT ?_);try rfl)
theorem enew_sat (y:Ly) (hs:Sml7 y) (hv:validE y=0) (hr:∀i,i<y.nodes.length->∀j,j<(y.nodes.getD i default).ex.length->0<=(y.nodes.getD i default).ex.getD j 0/\(y.nodes.getD i default).ex.getD j 0<y.nodes.length):
  SatG Tryz.prog tab 44 [] [y.av] [] (.tup [.ptI (plB y (order y.nodes)),B true]):=by
 have h1:=validate_sat y hs
 rw[hv] at h1
 have h2:=lorder_sat y hs hv hr
 refine uFN Tryz.func44 Tryz.ntmps44 ?_;intro w e X hC
 refine uA ?_
 refine uR ?_;intro K hK
 refine callF uTS (h1) uTS uTS uTS ?_;refine uS ?_
 refine hK _ ?_;clear hK K
 refine uF ?_
 refine uD ?_;intro K hK
 refine callP uTS (h2) uTS uTS uTS ?_;refine uS ?_
 refine uH ?_
 refine hK _ ?_;clear hK K
 refine awp_ret ?_;rw[show Tryz.f44.results.toList=[.tmp 2, .tmp 3] from rfl];first|refine uRN ?_|exact uRM
open Go.Plant
theorem moved_ok (xs:List Nd) (p:Pl) (cs:List Int) (fs:List T3) (LV:List Int):(stepP xs p cs fs LV).2.Pairwise (fun a b=>a.b<b.b)/\(∀m∈(stepP xs p cs fs LV).2,0<=m.b/\m.b<xs.length)/\(stepP xs p cs fs LV).2.length<=xs.length:=by
 have e:(stepP xs p cs fs LV).2=(((List.range xs.length).filter fun m=>decide (0<=LV.getD m 0)).map (mvOf xs p cs fs LV)).filter fun m=>!decide (m.b=m.c):=by
  show List.filter _ (st1 _ _ _ _ _ _).2.2=_
  rw[st1_mv]
 rw[e]
 refine⟨List.Pairwise.filter _ (List.pairwise_map.2 (List.Pairwise.filter _ (List.Pairwise.imp ?_ List.pairwise_lt_range))),fun m hm=>?_,?_⟩
 ·intro a b h
  simp only[mvOf]
  omega
 ·have h1:=(List.mem_filter.1 hm).1
  obtain⟨k,hk,rfl⟩:=List.mem_map.1 h1
  have:=List.mem_range.1 (List.mem_filter.1 hk).1
  simp only[mvOf]
  omega
 ·refine Nat.le_trans (List.length_filter_le _ _) ?_
  rw[List.length_map]
  refine Nat.le_trans (List.length_filter_le _ _) ?_
  rw[List.length_range]
  exact Nat.le_refl _
theorem moved_asc (xs:List Nd) (p:Pl) (cs:List Int) (fs:List T3) (LV:List Int):Asc (stepP xs p cs fs LV).2:=by
 intro i hi
 have:=pw_getD (d:=default) (moved_ok xs p cs fs LV).1 (show i<i+1 by omega) hi
 omega
theorem moved_sml (xs:List Nd) (p:Pl) (cs:List Int) (fs:List T3) (LV:List Int) (h:xs.length<=1000):Sml (stepP xs p cs fs LV).2:=by
 intro i hi
 have:=(moved_ok xs p cs fs LV).2.1 _ (mem_getD (d:=default) hi)
 omega
theorem pstep_ok (y:Ly) (p:Pl) (cs:List Int) (fs:List T3) (hs:Sml7 y) (hv:validE y=0) (hr:ExOk y.nodes) (hp:FitP y.nodes p) (hb:possR y.nodes cs fs=0)
  (hN:y.nodes.length<=11) (hc:cs.length=y.nodes.length) (hf:FitF y.nodes fs)
  (hx:∀m,m<y.nodes.length->0<=(wnts y.nodes p cs fs y.nodes.length).getD m 0->(wnts y.nodes p cs fs y.nodes.length).getD m 0<(y.nodes.getD m default).ex.length)
  (hol:(order y.nodes).length<=1000) (hord:∀i,i<(order y.nodes).length->0<=(order y.nodes).getD i 0/\(order y.nodes).getD i 0<y.nodes.length) (LV EN:List Int)
  (hLl:LV.length=y.nodes.length) (hx1:LvOk y.nodes LV) (hbs:∀n,n<y.nodes.length->(p.bins.getD n []).Pairwise (·<=·)) (hLV:flows y.nodes p (wnts y.nodes p cs fs y.nodes.length) (order y.nodes)=(LV,EN)):
  SatG Tryz.prog tab 16 [] [y.av,p.av,IS cs, .sl (t3s fs) false] [] (.tup [(stepP y.nodes p cs fs LV).1.av, .sl (t3s (stepP y.nodes p cs fs LV).2) false,I 0]):=by
 have h1:=enew_sat y hs hv hr
 have h2:=fits_sat y p (order y.nodes) hp
 have h3:=refused_sat y (order y.nodes) cs fs hs.n (by omega) hf.len hp.ex
 have h4:=estep_sat y p (order y.nodes) cs fs hp hN hc hf hx hol hord LV EN hLl hx1 hr hbs hLV
 have h5:=(moved_ok y.nodes p cs fs LV).2.2
 have h6:=sortP_sat _ (by omega) (moved_asc y.nodes p cs fs LV) (moved_sml y.nodes p cs fs LV (by omega))
 rw[hb] at h3
 generalize stepP y.nodes p cs fs LV=r at*
 obtain⟨⟨q1,q2⟩,mv⟩:=r
 simp only at h4 h5 h6 ⊢
 refine uFN Tryz.func16 Tryz.ntmps16 ?_;intro w e X hC
 refine uA ?_
 refine uR ?_;intro K hK
 refine callP uTS (h1) uTS uTS uTS ?_;refine uS ?_
 refine hK _ ?_;clear hK K
 refine uR ?_;intro K hK
 refine callF uTS (h2) uTS uTS uTS ?_;refine uS ?_
 refine hK _ ?_;clear hK K
 refine uF ?_
 refine uR ?_;intro K hK
 refine callF uTS (h3) uTS uTS uTS ?_;refine uS ?_
 refine hK _ ?_;clear hK K
 refine uR ?_;intro K hK
 refine hK _ ?_;clear hK K
 refine uF ?_
 refine uR ?_;intro K hK
 have z:=(uI @Bool.or_true (uI @Bool.true_or @Bool.false_or));refine callE [] [(143,32,100,1),(401,32,101,1),(402,32,102,1)] false (h4) (uTR1 z) (uTR1 z) (uTE1 z) (uTE1 z) (uTE1 z) (uTE1 z) (uTE1 z) (uTE1 z) (uTE1 z) (uTE1 z) (uTE1 z) (uTE1 z) (uTE1 z) (uTE1 z) (uTE1 z) (uTE1 z) (uTE1 z) ?_;refine uQS1 z ?_;clear z
 refine hK _ ?_;clear hK K
 refine uR ?_;intro K hK
 refine callE [(0,0,402,32)] [(402,32,0,0)] true (h6) uTR uTR uTE uTE uTE uTE uTE uTE uTE uTE uTE uTE uTE uTE uTE uTE uTE ?_;refine uQS ?_
 refine hK _ ?_;clear hK K
 repeat refine uA ?_
 refine awp_ret ?_;rw[show Tryz.f16.results.toList=[.cell 8 34, .tmp 9, .tmp 10] from rfl];first|refine uRN ?_|exact uRM
def leadA (N i:Int) (x:Nd) (k:Nat):Bool:=inB (x.ex.getD k 0) 0 (N - 1)&&(decide (x.ex.getD k 0=i)==(decide (x.kd=5)&&decide (k=0)))
theorem leadP_two {N i:Int} {x:Nd} (h:(x.ex.length:Int)=exitsN x.kd):leadP N i x=((List.range x.ex.length).all (leadA N i x)&&!(decide (x.ex.length=2)&&decide (x.ex.getD 0 0=x.ex.getD 1 0))):=by
 have hl:x.ex.length=0\/x.ex.length=1\/x.ex.length=2:=by
  have:exitsN x.kd=0\/exitsN x.kd=1\/exitsN x.kd=2:=by unfold exitsN;split<;>(try split)<;>simp
  omega
 have hin:∀e:Int,inB e 0 (N - 1)=(decide (0<=e)&&decide (e<N)):=fun e=>by
  unfold inB
  congr 1
  by_cases h:e<N
  ·rw[decide_eq_true h,decide_eq_true (by omega)]
  ·rw[decide_eq_false h,decide_eq_false (by omega)]
 rw[leadP,decide_eq_true h,Bool.true_and]
 rcases hl with hl|hl|hl
 ·rw[hl];simp
 ·rw[hl];simp[List.range_succ,leadK,leadA,hin,Bool.and_assoc]
 ·match he:x.ex,hl with
  |[a,b],_=>
   simp[List.range_succ,leadK,leadA,hin,he,Bool.and_assoc]
   have:decide (b=a)=decide (a=b):=by by_cases h:a=b<;>simp[h,eq_comm]
   rw[this]
def loN (kd:Int):Int:=if kd=5 then 2 else if isStrip kd=true then 1 else 0
def hiN (kd:Int):Int:=if isStrip kd=true then 8 else 0
theorem lenOk_in (x:Nd):lenOk x=inB x.ln (loN x.kd) (hiN x.kd):=by
 unfold lenOk inB loN hiN
 by_cases h5:x.kd=5
 ·simp only[if_pos h5,if_pos (show isStrip x.kd=true by rw[h5];decide)]
 ·simp only[if_neg h5]
  split
  ·rfl
  ·by_cases h:x.ln=0
   ·simp[h]
   ·rw[decide_eq_false h]
    simp;omega
theorem rnode_sat (y:Ly) (i:Nat) (hi:i<y.nodes.length) (hN:y.nodes.length<=1000) (hx:(y.nodes.getD i default).ex.length<=1000) (hnm:(bs (y.nodes.getD i default).nm).length<=1000):
  SatG Tryz.prog tab 98 [] [y.av,I i] [] (I (nodeE y.nodes.length i (y.nodes.getD i default))):=by
 have h1:=name4_sat _ hnm
 generalize e1:y.nodes.getD i default=x at*
 have hE:nodeE y.nodes.length i x=_:=nodeE.eq_1 _ _ _
 have hlp:=fun h=>leadP_two (N:=y.nodes.length) (i:=i) (x:=x) h
 have hex:¬((x.ex.length:Int)=exitsN x.kd)->leadP y.nodes.length i x=false:=fun h=>by rw[leadP,decide_eq_false h,Bool.false_and]
 rw[lenOk_in] at hE
 generalize nodeE y.nodes.length i x=r at*
 generalize nameOk x.nm=a at*
 generalize leadP y.nodes.length i x=p at*
 refine uFN Tryz.func98 Tryz.ntmps98 ?_;intro w e X hC
 refine uA ?_
 repeat refine uA1 (uI (nds_getD hi) @e1) ?_
 refine uR ?_;intro K hK
 refine callF uTS (h1) uTS uTS uTS ?_;refine uS ?_
 refine hK _ ?_;clear hK K
 cases a with
 |false=>
  refine uT ?_
  repeat refine uA ?_
  rw[if_pos rfl] at hE
  subst hE
  (refine awp_ret (ret1 uRT ?_);try rfl)
 |true=>
 rw[if_neg (by decide)] at hE
 refine uF ?_
 refine uR ?_;intro K hK
 refine callF uTS ((in7_sat x.kd 1 9)) uTS uTS uTS ?_;refine uS ?_
 refine hK _ ?_;clear hK K
 cases d1:inB x.kd 1 9 with
 |false=>
  have:x.kd<1\/9<x.kd:=by simp[inB] at d1;omega
  rw[if_pos this] at hE
  subst hE
  refine uT ?_
  repeat refine uA ?_
  (refine awp_ret (ret1 uRT ?_);try rfl)
 |true=>
 rw[if_neg (by simp[inB] at d1;omega)] at hE
 refine uF ?_
 refine uA ?_
 refine awp_seq ?_
 refine awp_merge (fun q:Nat=>⟨[(1,I i),(2, .ptO 102 1 0 0 0),(5, .ptO 105 8 0 0 0),(6,I (if isStrip x.kd=true then 1 else 0)),(7,I (hiN x.kd))],(105,some (8, .box [S x.nm,I x.kd,I x.ln,I x.zn,IS x.ex]))::(102,some (1, .box [.sl (nds y.nodes) false, .sl (t3s y.devs) false]))::[],q⟩) (fun _=>True) ?_ ?_
 ·refine uR ?_;intro K hK
  refine callF uTS ((strip7_sat x.kd)) uTS uTS uTS ?_;refine uS ?_
  refine hK _ ?_;clear hK K
  unfold hiN
  cases isStrip x.kd with
  |true=>
   refine uT ?_
   repeat refine uA ?_
   refine⟨_,trivial,uKF⟩
  |false=>
   refine uF ?_
   refine uW ?_
   refine⟨_,trivial,uKF⟩
 rintro ck1 -
 refine awp_seq ?_
 refine awp_merge (fun q:Nat=>⟨[(1,I i),(2, .ptO 102 1 0 0 0),(5, .ptO 105 8 0 0 0),(6,I (loN x.kd)),(7,I (hiN x.kd))],(105,some (8, .box [S x.nm,I x.kd,I x.ln,I x.zn,IS x.ex]))::(102,some (1, .box [.sl (nds y.nodes) false, .sl (t3s y.devs) false]))::[],q⟩) (fun _=>True) ?_ ?_
 ·unfold loN
  by_cases c5:x.kd=5
  ·have d5:=decide_eq_true c5
   simp only[if_pos c5]
   refine uR1 @d5 ?_;intro K hK
   refine hK _ ?_;clear hK K
   refine uT ?_
   repeat refine uA ?_
   refine⟨_,trivial,uKF⟩
  ·have d5:=decide_eq_false c5
   simp only[if_neg c5]
   refine uR1 @d5 ?_;intro K hK
   refine hK _ ?_;clear hK K
   refine uF ?_
   refine uW ?_
   refine⟨_,trivial,uKF⟩
 rintro ck2 -
 have hi1:=in7_sat x.ln (loN x.kd) (hiN x.kd)
 have hi2:=in7_sat x.zn 0 1
 have hz:(x.zn=0\/x.zn=1)↔inB x.zn 0 1=true:=by simp[inB];omega
 simp only[hz] at hE
 generalize inB x.ln (loN x.kd) (hiN x.kd)=b1 at*
 generalize inB x.zn 0 1=b2 at*
 have hxs:=exits7_sat x.kd
 generalize exitsN x.kd=en at*
 cases b1 with
 |false=>
  rw[if_neg (by simp)] at hE
  subst hE
  refine uE ?_;intro K hK
  refine uH ?_
  refine callF uTS (hi1) uTS uTS uTS ?_;refine uS ?_
  refine uH ?_
  refine hK _ ?_;clear hK K
  refine uT ?_
  repeat refine uA ?_
  (refine awp_ret (ret1 uRT ?_);try rfl)
 |true=>
 cases b2 with
 |false=>
  rw[if_neg (by simp)] at hE
  subst hE
  refine uE ?_;intro K hK
  refine uH ?_
  refine callF uTS (hi1) uTS uTS uTS ?_;refine uS ?_
  refine callF uTS (hi2) uTS uTS uTS ?_;refine uS ?_
  refine uH ?_
  refine hK _ ?_;clear hK K
  refine uT ?_
  repeat refine uA ?_
  (refine awp_ret (ret1 uRT ?_);try rfl)
 |true=>
 by_cases c3:(x.ex.length:Int)=en
 ·have d3:decide (¬(x.ex.length:Int)=en)=false:=decide_eq_false (by omega)
  refine uE ?_;intro K hK
  refine uH ?_
  refine callF uTS (hi1) uTS uTS uTS ?_;refine uS ?_
  refine callF uTS (hi2) uTS uTS uTS ?_;refine uS ?_
  refine callF uTS (hxs) uTS uTS uTS ?_;refine uS ?_
  first|refine uS1 @d3 ?_|exact uX1 @d3
  refine uH ?_
  refine hK _ ?_;clear hK K
  refine uF ?_
  replace hlp:=hlp c3
  clear hex hxs hi1 hi2 hz c3 d3
  repeat refine uA ?_
  refine uW ?_
  refine awp_loopW (fun q:Nat×Nat=>⟨[(1,I i),(2, .ptO 102 1 0 0 0),(5, .ptO 105 8 0 0 0),(8,I q.2)],(105,some (8, .box [S x.nm,I x.kd,I x.ln,I x.zn,IS x.ex]))::(102,some (1, .box [.sl (nds y.nodes) false, .sl (t3s y.devs) false]))::[],q.1⟩) (fun q=>q.2<=x.ex.length/\∀j,j<q.2->leadA y.nodes.length i x j=true) (fun q=>x.ex.length - q.2) (_,0) ⟨Nat.zero_le _,fun j hj=>absurd hj (Nat.not_lt_zero _)⟩ (uKF) ?_
  rintro⟨ck3,k⟩ ⟨hk,hj⟩
  simp only at hk hj
  repeat refine uA ?_
  refine uW ?_;refine condP _ rfl (fun h=>?_) (fun h=>?_)
  ·have hlt:k<x.ex.length:=by omega
   have hbad:=range_all_false (p:=leadA y.nodes.length i x) hlt
   have hgood:leadA y.nodes.length i x k=true->∀j,j<k+1->leadA y.nodes.length i x j=true:=fun h j hj'=>by
    by_cases hji:j=k
    ·subst hji;exact h
    ·exact hj j (by omega)
   have hA:leadA y.nodes.length i x k=_:=leadA.eq_1 _ _ _ _
   generalize leadA y.nodes.length i x k=la at*
   iterate 3 (first|refine awp_skip ?_|refine awp_seq ?_|refine awp_block ?_)
   refine awp_seq ?_
   refine awp_merge (fun q:Nat=>⟨[(1,I i),(2, .ptO 102 1 0 0 0),(5, .ptO 105 8 0 0 0),(8,I k),(9,B (decide (x.kd=5)&&decide (k=0)))],(105,some (8, .box [S x.nm,I x.kd,I x.ln,I x.zn,IS x.ex]))::(102,some (1, .box [.sl (nds y.nodes) false, .sl (t3s y.devs) false]))::[],q⟩) (fun _=>True) ?_ ?_
   ·by_cases c5:x.kd=5
    ·have d5:=decide_eq_true c5
     by_cases c0:k=0
     ·have d0:decide ((k:Int)=0)=true:=decide_eq_true (by omega)
      repeat refine uA1 (uI @d5 @d0) ?_
      refine⟨_,trivial, .of (Nat.le_refl _) uHF (uWF1 (uI @d5 (uI @c0 @Bool.true_and)))⟩
     ·have d0:decide ((k:Int)=0)=false:=decide_eq_false (by omega)
      repeat refine uA1 (uI @d5 @d0) ?_
      refine⟨_,trivial, .of (Nat.le_refl _) uHF (uWF1 (uI @d5 (uI @c0 @Bool.true_and)))⟩
    ·have d5:=decide_eq_false c5
     repeat refine uA1 @d5 ?_
     refine⟨_,trivial, .of (Nat.le_refl _) uHF (uWF1 (uI @d5 @Bool.false_and))⟩
   rintro ck4 -
   have hin:=in7_sat (x.ex.getD k 0) 0 (y.nodes.length - 1)
   generalize inB (x.ex.getD k 0) 0 (y.nodes.length - 1)=b3 at*
   generalize (decide (x.kd=5)&&decide (k=0))=ow at*
   cases b3 with
   |false=>
    rw[Bool.false_and] at hA
    subst hA
    rw[hlp,hbad rfl,if_neg (by simp)] at hE
    subst hE
    refine uE1 (ints_getD hlt) ?_;intro K hK
    refine⟨by omega,by omega,?_⟩
    refine callF uTS (hin) uTS uTS uTS ?_;refine uS ?_
    refine uH ?_
    refine hK _ ?_;clear hK K
    refine uT ?_
    repeat refine uA ?_
    (refine awp_ret (ret1 uRT ?_);try rfl)
   |true=>
    rw[Bool.true_and] at hA
    refine uE1 (ints_getD hlt) ?_;intro K hK
    refine⟨by omega,by omega,?_⟩
    refine callF uTS (hin) uTS uTS uTS ?_;refine uS ?_
    first|refine uS1 (uI (ints_getD hlt) @hA.symm) ?_|exact uX1 (uI (ints_getD hlt) @hA.symm)
    refine uH ?_
    refine hK _ ?_;clear hK K
    cases la with
    |false=>
     rw[hlp,hbad rfl,if_neg (by simp)] at hE
     subst hE
     refine uT ?_
     repeat refine uA ?_
     (refine awp_ret (ret1 uRT ?_);try rfl)
    |true=>
     refine uF ?_
     repeat refine uA ?_
     refine⟨(_,k+1),⟨by simp only;omega,hgood rfl⟩,by simp only;omega,uKF⟩
  ·refine awp_exit ?_
   obtain rfl:k=x.ex.length:=by omega
   rw[range_all_true hj,Bool.true_and] at hlp
   by_cases c2:x.ex.length=2
   ·have d2:decide ((x.ex.length:Int)=2)=true:=decide_eq_true (by omega)
    rw[decide_eq_true c2,Bool.true_and] at hlp
    have hl0:0<x.ex.length:=by omega
    have hl1:1<x.ex.length:=by omega
    refine uE1 (uI @d2 (uI (ints_getD hl0) (uI (ints_getD hl1) (uI @Int.toNat_zero @Int.toNat_one)))) ?_;intro K hK
    refine uH ?_
    refine hK _ ?_;clear hK K
    refine uW ?_;refine condP _ rfl (fun c4=>?_) (fun c4=>?_)
    ·rw[decide_eq_true c4] at hlp
     rw[hlp,if_neg (by simp)] at hE
     subst hE
     repeat refine uA ?_
     (refine awp_ret (ret1 uRT ?_);try rfl)
    ·rw[decide_eq_false c4] at hlp
     rw[hlp,if_pos (by simp)] at hE
     subst hE
     repeat refine uA ?_
     (refine awp_ret (ret1 uRT ?_);try rfl)
   ·have d2:decide ((x.ex.length:Int)=2)=false:=decide_eq_false (by omega)
    rw[decide_eq_false c2,Bool.false_and] at hlp
    rw[hlp,if_pos (by simp)] at hE
    subst hE
    refine uE1 @d2 ?_;intro K hK
    refine uH ?_
    refine hK _ ?_;clear hK K
    refine uF ?_
    repeat refine uA ?_
    (refine awp_ret (ret1 uRT ?_);try rfl)
 ·have d3:decide (¬(x.ex.length:Int)=en)=true:=decide_eq_true c3
  rw[if_neg (by rw[hex c3];simp)] at hE
  subst hE
  refine uE ?_;intro K hK
  refine uH ?_
  refine callF uTS (hi1) uTS uTS uTS ?_;refine uS ?_
  refine callF uTS (hi2) uTS uTS uTS ?_;refine uS ?_
  refine callF uTS (hxs) uTS uTS uTS ?_;refine uS ?_
  first|refine uS1 @d3 ?_|exact uX1 @d3
  refine uH ?_
  refine hK _ ?_;clear hK K
  refine uT ?_
  repeat refine uA ?_
  (refine awp_ret (ret1 uRT ?_);try rfl)
def zf (x:Nd):Bool:=decide (x.kd=1)||(decide (x.kd=3)||decide (x.kd=6))
def zs (x:Nd):Bool:=decide (x.kd=7)||decide (x.kd=8)
theorem zoneA_fs (x:Nd):zoneA x=!((zf x&&decide (¬x.zn=0))||(zs x&&decide (¬x.zn=1))):=by
 unfold zoneA zf zs
 by_cases h1:x.kd=1\/x.kd=3\/x.kd=6
 ·rw[if_pos h1]
  have h7:¬x.kd=7:=by omega
  have h8:¬x.kd=8:=by omega
  have:(decide (x.kd=1)||(decide (x.kd=3)||decide (x.kd=6)))=true:=by simpa using h1
  rw[this,decide_eq_false h7,decide_eq_false h8]
  simp
 ·rw[if_neg h1]
  have:(decide (x.kd=1)||(decide (x.kd=3)||decide (x.kd=6)))=false:=by simpa using h1
  rw[this]
  by_cases h2:x.kd=7\/x.kd=8
  ·rw[if_pos h2]
   have:(decide (x.kd=7)||decide (x.kd=8))=true:=by simpa using h2
   rw[this];simp
  ·rw[if_neg h2]
   have:(decide (x.kd=7)||decide (x.kd=8))=false:=by simpa using h2
   rw[this];simp
theorem rzoned_sat (y:Ly) (hN:y.nodes.length<=1000) (hx:∀i,i<y.nodes.length->(y.nodes.getD i default).ex.length<=1000) (hr:∀i,i<y.nodes.length->∀k,k<(y.nodes.getD i default).ex.length->0<=(y.nodes.getD i default).ex.getD k 0/\(y.nodes.getD i default).ex.getD k 0<y.nodes.length):
  SatG Tryz.prog tab 99 [] [y.av] [] (B (zonesB y.nodes)):=by
 refine uFN Tryz.func99 Tryz.ntmps99 ?_;intro w e X hC
 repeat refine uA ?_
 refine uW ?_
 refine awp_loopW (fun q:Nat×Nat=>⟨[(1, .ptO 101 1 0 0 0),(3,I q.2)],(101,some (1, .box [.sl (nds y.nodes) false, .sl (t3s y.devs) false]))::[],q.1⟩) (fun q=>q.2<=y.nodes.length/\∀j,j<q.2->zoneB y.nodes (y.nodes.getD j default)=true) (fun q=>y.nodes.length - q.2) (_,0) ⟨Nat.zero_le _,fun j hj=>absurd hj (Nat.not_lt_zero _)⟩ (uKF) ?_
 rintro⟨ck,i⟩ ⟨hi,hj⟩
 simp only at hi hj
 repeat refine uA ?_
 refine uW ?_;refine condP _ rfl (fun h=>?_) (fun h=>?_)
 ·have hlt:i<y.nodes.length:=by omega
  have hbad:=range_all_false (p:=fun i=>zoneB y.nodes (y.nodes.getD i default)) hlt
  have hzB:zonesB y.nodes=_:=zonesB.eq_1 y.nodes
  try simp only at hbad
  rw[<-hzB] at hbad
  have hgood:zoneB y.nodes (y.nodes.getD i default)=true->∀j,j<i+1->zoneB y.nodes (y.nodes.getD j default)=true:=fun h j hj'=>by
   by_cases hji:j=i
   ·subst hji;exact h
   ·exact hj j (by omega)
  have hxi:=hx i hlt
  have hri:=hr i hlt
  clear hzB
  generalize e1:y.nodes.getD i default=x at*
  have hZ:zoneB y.nodes x=_:=zoneB.eq_1 _ _
  rw[zoneA_fs] at hZ
  iterate 3 (first|refine awp_skip ?_|refine awp_seq ?_|refine awp_block ?_)
  refine awp_seq ?_
  refine uR1 (uI (nds_getD hlt) @e1) ?_;intro K hK
  refine uH ?_
  refine hK _ ?_;clear hK K
  refine awp_weak (s':=⟨[(1, .ptO 101 1 0 0 0),(3,I i),(4, .ptO 104 (ck+10) 0 0 0)],(104,some (ck+10, .box [S x.nm,I x.kd,I x.ln,I x.zn,IS x.ex]))::(101,some (1, .box [.sl (nds y.nodes) false, .sl (t3s y.devs) false]))::[],_⟩) (uKF) ?_
  generalize hgk:ck+10=g
  clear hgk
  refine awp_seq ?_
  refine awp_merge (fun q:Nat=>⟨[(1, .ptO 101 1 0 0 0),(3,I i),(4, .ptO 104 g 0 0 0),(5,B (zf x))],(104,some (g, .box [S x.nm,I x.kd,I x.ln,I x.zn,IS x.ex]))::(101,some (1, .box [.sl (nds y.nodes) false, .sl (t3s y.devs) false]))::[],q⟩) (fun _=>True) ?_ ?_
  ·unfold zf
   cases d1:decide (x.kd=1) with
   |true=>
    repeat refine uA1 @d1 ?_
    refine⟨_,trivial,uKF⟩
   |false=>
   cases d3:decide (x.kd=3) with
   |true=>
    repeat refine uA1 (uI @d1 @d3) ?_
    refine⟨_,trivial,uKF⟩
   |false=>
    repeat refine uA1 (uI @d1 @d3) ?_
    refine⟨_,trivial,uKF⟩
  rintro ck1 -
  refine awp_seq ?_
  refine awp_merge (fun q:Nat=>⟨[(1, .ptO 101 1 0 0 0),(3,I i),(4, .ptO 104 g 0 0 0),(5,B (zf x)),(6,B (zs x))],(104,some (g, .box [S x.nm,I x.kd,I x.ln,I x.zn,IS x.ex]))::(101,some (1, .box [.sl (nds y.nodes) false, .sl (t3s y.devs) false]))::[],q⟩) (fun _=>True) ?_ ?_
  ·unfold zs
   cases d1:decide (x.kd=7) with
   |true=>
    repeat refine uA1 @d1 ?_
    refine⟨_,trivial,uKF⟩
   |false=>
    repeat refine uA1 @d1 ?_
    refine⟨_,trivial,uKF⟩
  rintro ck2 -
  generalize zf x=f at*
  generalize zs x=sc at*
  have hb0:∀u:Bool,zoneB y.nodes x=(false&&u)->zoneB y.nodes x=false:=fun u h=>by rw[h,Bool.false_and]
  refine awp_seq ?_
  refine awp_merge (fun q:Nat=>⟨[(1, .ptO 101 1 0 0 0),(3,I i),(4, .ptO 104 g 0 0 0)],(104,some (g, .box [S x.nm,I x.kd,I x.ln,I x.zn,IS x.ex]))::(101,some (1, .box [.sl (nds y.nodes) false, .sl (t3s y.devs) false]))::[],q⟩) (fun _=>zoneB y.nodes x=(List.range x.ex.length).all (zoneK y.nodes x)) ?_ ?_
  ·cases f with
   |true=>
    cases z0:decide (¬x.zn=0) with
    |true=>
     rw[z0] at hZ
     repeat first|refine uC ?_|refine uA1 @z0 ?_
     rw[hbad (hb0 _ hZ)]
     (refine awp_ret (ret1 uRT ?_);try rfl)
    |false=>
     rw[z0] at hZ
     cases sc with
     |true=>
      cases z1:decide (¬x.zn=1) with
      |true=>
       rw[z1] at hZ
       repeat first|refine uC ?_|refine uA1 (uI @z0 @z1) ?_
       rw[hbad (hb0 _ hZ)]
       (refine awp_ret (ret1 uRT ?_);try rfl)
      |false=>
       rw[z1] at hZ
       repeat first|refine uC ?_|refine uA1 (uI @z0 @z1) ?_
       refine uW ?_
       refine⟨_,hZ,uKF⟩
     |false=>
      repeat first|refine uC ?_|refine uA1 @z0 ?_
      refine uW ?_
      refine⟨_,hZ,uKF⟩
   |false=>
    cases sc with
    |true=>
     cases z1:decide (¬x.zn=1) with
     |true=>
      rw[z1] at hZ
      repeat first|refine uC ?_|refine uA1 @z1 ?_
      rw[hbad (hb0 _ hZ)]
      (refine awp_ret (ret1 uRT ?_);try rfl)
     |false=>
      rw[z1] at hZ
      repeat first|refine uC ?_|refine uA1 @z1 ?_
      refine uW ?_
      refine⟨_,hZ,uKF⟩
    |false=>
     repeat first|refine uC ?_|refine uA ?_
     refine uW ?_
     refine⟨_,hZ,uKF⟩
  rintro ck3 hZ2
  clear hZ hb0
  repeat refine uA ?_
  refine uW ?_
  refine awp_loopW (fun q:Nat×Nat=>⟨[(1, .ptO 101 1 0 0 0),(3,I i),(4, .ptO 104 g 0 0 0),(7,I q.2)],(104,some (g, .box [S x.nm,I x.kd,I x.ln,I x.zn,IS x.ex]))::(101,some (1, .box [.sl (nds y.nodes) false, .sl (t3s y.devs) false]))::[],q.1⟩) (fun q=>q.2<=x.ex.length/\∀j,j<q.2->zoneK y.nodes x j=true) (fun q=>x.ex.length - q.2) (_,0) ⟨Nat.zero_le _,fun j hj=>absurd hj (Nat.not_lt_zero _)⟩ (uKF) ?_
  rintro⟨ck,k⟩ ⟨hk,hj2⟩
  simp only at hk hj2
  repeat refine uA ?_
  refine uW ?_;refine condP _ rfl (fun h2=>?_) (fun h2=>?_)
  ·have hlt2:k<x.ex.length:=by omega
   obtain⟨r0,r1⟩:=hri k hlt2
   have hbad2:zoneK y.nodes x k=false->zonesB y.nodes=false:=fun h=>hbad (by rw[hZ2,range_all_false hlt2 h])
   have hgood2:zoneK y.nodes x k=true->∀j,j<k+1->zoneK y.nodes x j=true:=fun h j hj'=>by
    by_cases hji:j=k
    ·subst hji;exact h
    ·exact hj2 j (by omega)
   obtain⟨zk,hzk⟩:∃zk,zk=zoneK y.nodes x k:=⟨_,rfl⟩
   rw[<-hzk] at hbad2 hgood2
   unfold zoneK at hzk
   obtain⟨m,hm⟩:∃m,m=(x.ex.getD k 0).toNat:=⟨_,rfl⟩
   have hmm:x.ex.getD k 0=(m:Int):=by omega
   rw[<-hm] at hzk
   have hmn:m<y.nodes.length:=by omega
   generalize e3:y.nodes.getD m default=t at*
   refine uD1 (uI (ints_getD hlt2) (uI @hmm (uI (nds_getD hmn) @e3))) ?_;intro K hK
   refine uH ?_
   refine hK _ ?_;clear hK K
   refine awp_weak (s':=⟨[(1, .ptO 101 1 0 0 0),(3,I i),(4, .ptO 104 g 0 0 0),(7,I k),(8, .ptO 108 (ck+14) 0 0 0)],(108,some (ck+14, .box [S t.nm,I t.kd,I t.ln,I t.zn,IS t.ex]))::(104,some (g, .box [S x.nm,I x.kd,I x.ln,I x.zn,IS x.ex]))::(101,some (1, .box [.sl (nds y.nodes) false, .sl (t3s y.devs) false]))::[],_⟩) (uKF) ?_
   generalize hgk:ck+14=g2
   clear hgk
   refine uA ?_
   refine awp_seq ?_
   refine awp_merge (fun q:Nat=>⟨[(1, .ptO 101 1 0 0 0),(3,I i),(4, .ptO 104 g 0 0 0),(7,I k),(8, .ptO 108 g2 0 0 0),(9,I (zoneW x k))],(108,some (g2, .box [S t.nm,I t.kd,I t.ln,I t.zn,IS t.ex]))::(104,some (g, .box [S x.nm,I x.kd,I x.ln,I x.zn,IS x.ex]))::(101,some (1, .box [.sl (nds y.nodes) false, .sl (t3s y.devs) false]))::[],q⟩) (fun _=>True) ?_ ?_
   ·by_cases c6:x.kd=6
    ·have d6:=decide_eq_true c6
     by_cases ck1:k=1
     ·have dk:decide ((k:Int)=1)=true:=decide_eq_true (by omega)
      have hw:zoneW x k=1:=by rw[zoneW,if_pos ⟨c6,ck1⟩]
      repeat first|refine uC ?_|refine uA1 (uI @d6 @dk) ?_
      refine uW ?_
      refine⟨_,trivial, .of (Nat.le_refl _) (uHF1 @hw) (uWF1 @hw)⟩
     ·have dk:decide ((k:Int)=1)=false:=decide_eq_false (by omega)
      have hw:zoneW x k=x.zn:=by rw[zoneW,if_neg (fun h=>ck1 h.2)]
      repeat first|refine uC ?_|refine uA1 (uI @d6 @dk) ?_
      refine uW ?_
      refine⟨_,trivial, .of (Nat.le_refl _) (uHF1 @hw) (uWF1 @hw)⟩
    ·have d6:=decide_eq_false c6
     have hw:zoneW x k=x.zn:=by rw[zoneW,if_neg (fun h=>c6 h.1)]
     repeat first|refine uC ?_|refine uA1 @d6 ?_
     refine uW ?_
     refine⟨_,trivial, .of (Nat.le_refl _) (uHF1 @hw) (uWF1 @hw)⟩
   rintro ck4 -
   generalize zoneW x k=wt at*
   cases c1:decide (t.kd=1) with
   |true=>
    rw[c1,Bool.true_or] at hzk
    repeat first|refine uC ?_|refine uA1 @c1 ?_
    rw[hbad2 hzk]
    (refine awp_ret (ret1 uRT ?_);try rfl)
   |false=>
    cases c2:decide (¬t.zn=wt) with
    |true=>
     rw[c1,c2] at hzk
     repeat first|refine uC ?_|refine uA1 (uI @c1 @c2) ?_
     rw[hbad2 hzk]
     (refine awp_ret (ret1 uRT ?_);try rfl)
    |false=>
     rw[c1,c2] at hzk
     repeat first|refine uC ?_|refine uA1 (uI @c1 @c2) ?_
     refine⟨(_,k+1),⟨by simp only;omega,hgood2 hzk⟩,by simp only;omega,uKF⟩
  ·refine awp_exit ?_
   rw[range_all_true fun j hj'=>hj2 j (by omega)] at hZ2
   repeat refine uA ?_
   refine⟨(_,i+1),⟨by simp only;omega,hgood hZ2⟩,by simp only;omega,uKF⟩
 ·refine awp_exit ?_
  have:zonesB y.nodes=true:=range_all_true fun j hj'=>hj j (by omega)
  rw[this]
  repeat refine uA ?_
  (refine awp_ret (ret1 uRT ?_);try rfl)
theorem cnt_take {xs:List Nd} {k:Nat} (h:k<xs.length):(xs.take (k+1)).countP (fun x=>decide (x.kd=1))=(xs.take k).countP (fun x=>decide (x.kd=1))+if(xs.getD k default).kd=1 then 1 else 0:=by
 rw[take_getD (d:=default) h,List.countP_append]
 congr 1
 by_cases h1:(xs.getD k default).kd=1
 ·rw[if_pos h1,List.countP_cons_of_pos (by exact decide_eq_true h1)];rfl
 ·rw[if_neg h1,List.countP_cons_of_neg (by simpa only[decide_eq_true_eq] using h1)];rfl
theorem ent_cnt (xs:List Nd):entB xs=decide (¬xs.countP (fun x=>decide (x.kd=1))=0):=by
 rw[entB,Bool.eq_iff_iff,decide_eq_true_eq,List.countP_eq_zero,List.any_eq_true]
 constructor
 ·rintro⟨x,hx,h1⟩ h2
  exact h2 x hx h1
 ·intro h
  refine Decidable.byContradiction fun h2=>h fun x hx h1=>h2 ⟨x,hx,h1⟩
theorem rvalidate_sat (y:Ly) (hs:Sml7 y):SatG Tryz.prog tab 58 [] [y.av] [] (I (validE y)):=by
 obtain⟨hN,hD,hx,hnm⟩:=hs
 have hnode:=fun i hi=>rnode_sat y i hi hN (hx i hi) (hnm i hi)
 have htot:=total_sat y hN
 have hfnd:=fun nm=>find_sat y nm hN
 have hzon:=rzoned_sat y hN hx
 have hord:=order7_sat y hN hx
 have hE:validE y=_:=validE.eq_1 y
 rw[ent_cnt] at hE
 generalize validE y=r at*
 refine uFN Tryz.func58 Tryz.ntmps58 ?_;intro w e X hC
 repeat refine uA ?_
 cases d1:decide (24<(y.nodes.length:Int)) with
 |true=>
  have h1:=of_decide_eq_true d1
  rw[if_pos (.inl (by omega))] at hE
  subst hE
  repeat first|refine uC ?_|refine uA1 @d1 ?_
  (refine awp_ret (ret1 uRT ?_);try rfl)
 |false=>
 have h1:=of_decide_eq_false d1
 cases d2:decide (24<(y.devs.length:Int)) with
 |true=>
  have h2:=of_decide_eq_true d2
  rw[if_pos (.inr (by omega))] at hE
  subst hE
  repeat first|refine uC ?_|refine uA1 (uI @d1 @d2) ?_
  (refine awp_ret (ret1 uRT ?_);try rfl)
 |false=>
 have h2:=of_decide_eq_false d2
 rw[if_neg (by omega)] at hE
 refine uR1 (uI @d1 @d2) ?_;intro K hK
 refine hK _ ?_;clear hK K
 refine uF ?_
 repeat refine uA ?_
 refine uW ?_
 refine awp_loopW (fun q:Nat×Nat=>⟨[(1, .ptO 101 1 0 0 0),(3,I ((y.nodes.take q.2).countP (fun x=>decide (x.kd=1)):Nat)),(4,I q.2)],(101,some (1, .box [.sl (nds y.nodes) false, .sl (t3s y.devs) false]))::[],q.1⟩) (fun q=>q.2<=y.nodes.length/\∀j,j<q.2->nodeE y.nodes.length j (y.nodes.getD j default)=0) (fun q=>y.nodes.length - q.2) (_,0) ⟨Nat.zero_le _,fun j hj=>absurd hj (Nat.not_lt_zero _)⟩ (uKF) ?_
 rintro⟨ck,k⟩ ⟨hk,hj⟩
 simp only at hk hj
 have hcnt:(y.nodes.take k).countP (fun x=>decide (x.kd=1))<=k:=Nat.le_trans List.countP_le_length (by rw[List.length_take];omega)
 have hcf:k=y.nodes.length->(y.nodes.take k).countP (fun x=>decide (x.kd=1))=y.nodes.countP (fun x=>decide (x.kd=1)):=fun h=>by rw[h,List.take_length]
 have hct:=cnt_take (xs:=y.nodes) (k:=k)
 generalize (y.nodes.take k).countP (fun x=>decide (x.kd=1))=ct at*
 repeat refine uA ?_
 refine uW ?_;refine condP _ rfl (fun h=>?_) (fun h=>?_)
 ·have hlt:k<y.nodes.length:=by omega
  replace hct:=hct hlt
  have hbad:=nodesE_bad hlt hj
  have hsat:=hnode k hlt
  have hgood:nodeE y.nodes.length k (y.nodes.getD k default)=0->∀j,j<k+1->nodeE y.nodes.length j (y.nodes.getD j default)=0:=fun h j hj'=>by
   by_cases hji:j=k
   ·subst hji;exact h
   ·exact hj j (by omega)
  generalize nodeE y.nodes.length k (y.nodes.getD k default)=e at*
  generalize e2:y.nodes.getD k default=x at*
  refine uR ?_;intro K hK
  refine callF uTS (hsat) uTS uTS uTS ?_;refine uS ?_
  refine hK _ ?_;clear hK K
  repeat refine uA ?_
  refine uW ?_;refine condP _ rfl (fun c1=>?_) (fun c1=>?_)
  ·rw[if_pos (by rw[hbad c1];exact c1),hbad c1] at hE
   subst hE
   repeat refine uA ?_
   (refine awp_ret (ret1 uRT ?_);try rfl)
  ·have hg2:=hgood (Decidable.byContradiction c1)
   by_cases c2:x.kd=1
   ·have d3:=decide_eq_true c2
    rw[if_pos c2] at hct
    repeat first|refine uC ?_|refine uA1 (uI (nds_getD hlt) (uI @e2 @d3)) ?_
    refine⟨(_,k+1),⟨by simp only;omega,hg2⟩,by simp only;omega, .of (Nat.le_refl _) uHF (uWF1 @hct)⟩
   ·have d3:=decide_eq_false c2
    rw[if_neg c2] at hct
    repeat first|refine uC ?_|refine uA1 (uI (nds_getD hlt) (uI @e2 @d3)) ?_
    refine⟨(_,k+1),⟨by simp only;omega,hg2⟩,by simp only;omega, .of (Nat.le_refl _) uHF (uWF1 @hct)⟩
 ·refine awp_exit ?_
  obtain rfl:k=y.nodes.length:=by omega
  rw[<-hcf rfl] at hE
  rw[if_neg (by rw[nodesE_ok hj];simp)] at hE
  replace htot:=htot fun i hi=>⟨(nodeE_len (hj i hi)).1,by have:=(nodeE_len (hj i hi)).2.1;omega⟩
  replace hzon:=hzon fun i hi k hk=>nodeE_ex (hj i hi) k hk
  have hlns:∀i,i<y.nodes.length->0<=(y.nodes.getD i default).ln/\(y.nodes.getD i default).ln<=8:=fun i hi=>⟨(nodeE_len (hj i hi)).1,(nodeE_len (hj i hi)).2.1⟩
  clear hj hnode hct hcf
  have hnB:namedB y.nodes=_:=namedB.eq_1 y.nodes
  generalize total y.nodes=t at*
  generalize namedB y.nodes=nb at*
  generalize zonesB y.nodes=zb at*
  generalize order y.nodes=o at*
  refine uR ?_;intro K hK
  refine callF uTS (htot) uTS uTS uTS ?_;refine uS ?_
  refine hK _ ?_;clear hK K
  refine uW ?_;refine condP _ rfl (fun c1=>?_) (fun c1=>?_)
  ·rw[if_pos c1] at hE
   subst hE
   repeat refine uA ?_
   (refine awp_ret (ret1 uRT ?_);try rfl)
  rw[if_neg c1] at hE
  repeat refine uA ?_
  refine uW ?_
  refine awp_loopW (fun q:Nat×Nat=>⟨[(1, .ptO 101 1 0 0 0),(3,I ct),(6,I q.2)],(101,some (1, .box [.sl (nds y.nodes) false, .sl (t3s y.devs) false]))::[],q.1⟩) (fun q=>q.2<=y.nodes.length/\∀j,j<q.2->decide (findN y.nodes (y.nodes.getD j default).nm=(j:Int))=true) (fun q=>y.nodes.length - q.2) (_,0) ⟨Nat.zero_le _,fun j hj=>absurd hj (Nat.not_lt_zero _)⟩ (uKF) ?_
  rintro⟨ck2,k⟩ ⟨hk,hj⟩
  simp only at hk hj
  repeat refine uA ?_
  refine uW ?_;refine condP _ rfl (fun h3=>?_) (fun h3=>?_)
  ·have hlt:k<y.nodes.length:=by omega
   have hbad:=range_all_false (p:=fun i=>decide (findN y.nodes (y.nodes.getD i default).nm=(i:Int))) hlt
   try simp only at hbad
   rw[<-hnB] at hbad
   have hsat:=hfnd (y.nodes.getD k default).nm
   have hgood:decide (findN y.nodes (y.nodes.getD k default).nm=(k:Int))=true->∀j,j<k+1->decide (findN y.nodes (y.nodes.getD j default).nm=(j:Int))=true:=fun h j hj'=>by
    by_cases hji:j=k
    ·subst hji;exact h
    ·exact hj j (by omega)
   generalize e2:y.nodes.getD k default=x at*
   generalize findN y.nodes x.nm=f at*
   refine uE1 (uI (nds_getD hlt) @e2) ?_;intro K hK
   refine⟨by omega,?_⟩
   refine callF uTS (hsat) uTS uTS uTS ?_;refine uS ?_
   refine uH ?_
   refine hK _ ?_;clear hK K
   refine uW ?_;refine condP _ rfl (fun c2=>?_) (fun c2=>?_)
   ·rw[if_pos (hbad (decide_eq_false c2))] at hE
    subst hE
    repeat refine uA ?_
    (refine awp_ret (ret1 uRT ?_);try rfl)
   ·repeat refine uA ?_
    refine⟨(_,k+1),⟨by simp only;omega,hgood (decide_eq_true (Decidable.byContradiction c2))⟩,by simp only;omega,uKF⟩
  refine awp_exit ?_
  rw[if_neg (by rw[hnB,range_all_true fun j hj'=>hj j (by omega)];decide)] at hE
  clear hj
  refine uR ?_;intro K hK
  refine callF uTS (hzon) uTS uTS uTS ?_;refine uS ?_
  refine hK _ ?_;clear hK K
  cases zb with
  |false=>
   rw[if_pos rfl] at hE
   subst hE
   refine uT ?_
   repeat refine uA ?_
   (refine awp_ret (ret1 uRT ?_);try rfl)
  |true=>
  rw[if_neg (by decide)] at hE
  refine uF ?_
  refine uE ?_;intro K hK
  refine callP uTS (hord) uTS uTS uTS ?_;refine uS ?_
  refine uH ?_
  refine hK _ ?_;clear hK K
  refine uW ?_;refine condP _ rfl (fun c2=>?_) (fun c2=>?_)
  ·rw[if_pos (by omega)] at hE
   subst hE
   repeat refine uA ?_
   (refine awp_ret (ret1 uRT ?_);try rfl)
  rw[if_neg (by omega)] at hE
  repeat refine uA ?_
  refine uW ?_
  refine awp_loopW (fun q:Nat×Nat=>⟨[(1, .ptO 101 1 0 0 0),(3,I ct),(7,I q.2)],(101,some (1, .box [.sl (nds y.nodes) false, .sl (t3s y.devs) false]))::[],q.1⟩) (fun q=>q.2<=y.devs.length/\∀j,j<q.2->devOne y.nodes (y.devs.getD j default)=0) (fun q=>y.devs.length - q.2) (_,0) ⟨Nat.zero_le _,fun j hj=>absurd hj (Nat.not_lt_zero _)⟩ (uKF) ?_
  rintro⟨ck3,k⟩ ⟨hk,hj⟩
  simp only at hk hj
  repeat refine uA ?_
  refine uW ?_;refine condP _ rfl (fun h4=>?_) (fun h4=>?_)
  ·have hlt:k<y.devs.length:=by omega
   have hbad:=devE_bad hlt hj
   have hgood:devOne y.nodes (y.devs.getD k default)=0->∀j,j<k+1->devOne y.nodes (y.devs.getD j default)=0:=fun h j hj'=>by
    by_cases hji:j=k
    ·subst hji;exact h
    ·exact hj j (by omega)
   have hO:devOne y.nodes (y.devs.getD k default)=_:=devOne.eq_1 _ _
   generalize devOne y.nodes (y.devs.getD k default)=dv at*
   generalize e2:y.devs.getD k default=d at*
   iterate 3 (first|refine awp_skip ?_|refine awp_seq ?_|refine awp_block ?_)
   refine awp_seq ?_
   refine uR1 (uI (t3s_getD hlt) @e2) ?_;intro K hK
   refine uH ?_
   refine hK _ ?_;clear hK K
   refine awp_weak (s':=⟨[(1, .ptO 101 1 0 0 0),(3,I ct),(7,I k),(8, .ptO 108 (ck3+10) 0 0 0)],(108,some (ck3+10, .box [I d.a,I d.b,I d.c]))::(101,some (1, .box [.sl (nds y.nodes) false, .sl (t3s y.devs) false]))::[],_⟩) (uKF) ?_
   generalize hgk:ck3+10=g
   clear hgk
   refine awp_seq ?_
   refine awp_merge (fun q:Nat=>⟨[(1, .ptO 101 1 0 0 0),(3,I ct),(7,I k),(8, .ptO 108 g 0 0 0)],(108,some (g, .box [I d.a,I d.b,I d.c]))::(101,some (1, .box [.sl (nds y.nodes) false, .sl (t3s y.devs) false]))::[],q⟩) (fun _=>¬(¬d.a=1/\¬d.a=2)) ?_ ?_
   ·cases q1:decide (¬d.a=1) with
    |true=>
     have g1:=of_decide_eq_true q1
     cases q2:decide (¬d.a=2) with
     |true=>
      have g2:=of_decide_eq_true q2
      rw[if_pos ⟨g1,g2⟩] at hO
      rw[if_pos (by rw[hbad (by omega)];omega),hbad (by omega),hO] at hE
      subst hE
      repeat first|refine uC ?_|refine uA1 (uI @q1 @q2) ?_
      (refine awp_ret (ret1 uRT ?_);try rfl)
     |false=>
      have g2:=of_decide_eq_false q2
      repeat first|refine uC ?_|refine uA1 (uI @q1 @q2) ?_
      refine uW ?_
      refine⟨_,fun h=>g2 h.2,uKF⟩
    |false=>
     have g1:=of_decide_eq_false q1
     repeat first|refine uC ?_|refine uA1 @q1 ?_
     refine uW ?_
     refine⟨_,fun h=>g1 h.1,uKF⟩
   rintro ck4 hak
   rw[if_neg hak] at hO
   have hi1:=in7_sat d.b 0 (y.nodes.length - 1)
   cases b3:inB d.b 0 (y.nodes.length - 1) with
   |false=>
    rw[b3] at hi1
    rw[if_pos (by simp[inB] at b3;omega)] at hO
    rw[if_pos (by rw[hbad (by omega)];omega),hbad (by omega),hO] at hE
    subst hE
    refine uE ?_;intro K hK
    refine uH ?_
    refine callF uTS (hi1) uTS uTS uTS ?_;refine uS ?_
    refine uH ?_
    refine hK _ ?_;clear hK K
    refine uT ?_
    repeat refine uA ?_
    (refine awp_ret (ret1 uRT ?_);try rfl)
   |true=>
    rw[b3] at hi1
    have hb1:0<=d.b/\d.b<y.nodes.length:=by simp[inB] at b3;omega
    obtain⟨m,hm⟩:∃m,m=d.b.toNat:=⟨_,rfl⟩
    have hmm:d.b=(m:Int):=by omega
    rw[<-hm] at hO
    have hmn:m<y.nodes.length:=by omega
    have hlm:=hlns m hmn
    generalize e3:y.nodes.getD m default=x at*
    have hi2:=in7_sat d.c 0 (x.ln - 1)
    rw[hmm] at hi1
    cases b4:inB d.c 0 (x.ln - 1) with
    |false=>
     rw[b4] at hi2
     rw[if_pos (by simp[inB] at b4;omega)] at hO
     rw[if_pos (by rw[hbad (by omega)];omega),hbad (by omega),hO] at hE
     subst hE
     refine uE1 @hmm ?_;intro K hK
     refine uH ?_
     refine callF uTS (hi1) uTS uTS uTS ?_;refine uS ?_
     first|refine uS1 (uI @hmm (uI (nds_getD hmn) @e3)) ?_|exact uX1 (uI @hmm (uI (nds_getD hmn) @e3))
     refine uH ?_
     refine callF uTS (hi2) uTS uTS uTS ?_;refine uS ?_
     refine uH ?_
     refine hK _ ?_;clear hK K
     refine uT ?_
     repeat refine uA ?_
     (refine awp_ret (ret1 uRT ?_);try rfl)
    |true=>
     rw[b4] at hi2
     rw[if_neg (by simp[inB] at b4;omega)] at hO
     refine uE1 @hmm ?_;intro K hK
     refine uH ?_
     refine callF uTS (hi1) uTS uTS uTS ?_;refine uS ?_
     first|refine uS1 (uI @hmm (uI (nds_getD hmn) @e3)) ?_|exact uX1 (uI @hmm (uI (nds_getD hmn) @e3))
     refine uH ?_
     refine callF uTS (hi2) uTS uTS uTS ?_;refine uS ?_
     refine uH ?_
     refine hK _ ?_;clear hK K
     refine uF ?_
     repeat refine uA ?_
     refine⟨(_,k+1),⟨by simp only;omega,hgood hO⟩,by simp only;omega,uKF⟩
  refine awp_exit ?_
  obtain rfl:k=y.devs.length:=by omega
  rw[devE_ok hj] at hE
  clear hj
  repeat refine uA ?_
  refine uW ?_
  refine awp_loopW (fun q:Nat×Nat=>⟨[(1, .ptO 101 1 0 0 0),(3,I ct),(9,I q.2)],(101,some (1, .box [.sl (nds y.nodes) false, .sl (t3s y.devs) false]))::[],q.1⟩) (fun q=>q.2<=y.devs.length/\∀j,j<q.2->dupK y.devs j=true) (fun q=>y.devs.length - q.2) (_,0) ⟨Nat.zero_le _,fun j hj=>absurd hj (Nat.not_lt_zero _)⟩ (uKF) ?_
  rintro⟨ck4,k⟩ ⟨hk,hj⟩
  simp only at hk hj
  repeat refine uA ?_
  refine uW ?_;refine condP _ rfl (fun h5=>?_) (fun h5=>?_)
  ·have hlt:k<y.devs.length:=by omega
   have hbad:dupK y.devs k=false->(List.range y.devs.length).all (dupK y.devs)=false:=range_all_false hlt
   have hgood:dupK y.devs k=true->∀j,j<k+1->dupK y.devs j=true:=fun h j hj'=>by
    by_cases hji:j=k
    ·subst hji;exact h
    ·exact hj j (by omega)
   repeat refine uA ?_
   refine uW ?_
   refine awp_loopW (fun q:Nat×Nat=>⟨[(1, .ptO 101 1 0 0 0),(3,I ct),(9,I k),(10,I q.2)],(101,some (1, .box [.sl (nds y.nodes) false, .sl (t3s y.devs) false]))::[],q.1⟩) (fun q=>q.2<=k/\∀j,j<q.2->eqT (y.devs.getD k default) (y.devs.getD j default)=false) (fun q=>k - q.2) (_,0) ⟨Nat.zero_le _,fun j hj=>absurd hj (Nat.not_lt_zero _)⟩ (uKF) ?_
   rintro⟨ck5,c⟩ ⟨hc,hjc⟩
   simp only at hc hjc
   repeat refine uA ?_
   refine uW ?_;refine condP _ rfl (fun h6=>?_) (fun h6=>?_)
   ·have hck:c<k:=by omega
    have hcl:c<y.devs.length:=by omega
    have hall:eqT (y.devs.getD k default) (y.devs.getD c default)=true->dupK y.devs k=false:=fun h=>by
     rw[dupK,Bool.not_eq_false',List.any_eq_true]
     refine⟨y.devs.getD c default,?_,h⟩
     have hcl2:c<(y.devs.take k).length:=by rw[List.length_take];omega
     have:(y.devs.take k).getD c default=y.devs.getD c default:=by
      simp only[List.getD_eq_getElem?_getD,List.getElem?_take]
      rw[if_pos hck]
     rw[<-this]
     exact mem_getD hcl2
    have hg2:eqT (y.devs.getD k default) (y.devs.getD c default)=false->∀j,j<c+1->eqT (y.devs.getD k default) (y.devs.getD j default)=false:=fun h j hj'=>by
     by_cases hji:j=c
     ·subst hji;exact h
     ·exact hjc j (by omega)
    have hT:eqT (y.devs.getD k default) (y.devs.getD c default)=_:=eqT.eq_1 _ _
    generalize eqT (y.devs.getD k default) (y.devs.getD c default)=tt at*
    generalize e2:y.devs.getD k default=d at*
    generalize e3:y.devs.getD c default=d' at*
    refine uE1 (uI (t3s_getD hlt) (uI @e2 (uI (t3s_getD hcl) (uI @e3 @hT.symm)))) ?_;intro K hK
    refine uH ?_
    refine hK _ ?_;clear hK K
    cases tt with
    |true=>
     rw[hbad (hall rfl)] at hE
     simp only[Bool.false_eq_true,if_false,Int.reduceEq,not_false_eq_true,if_true] at hE
     subst hE
     refine uT ?_
     repeat refine uA ?_
     (refine awp_ret (ret1 uRT ?_);try rfl)
    |false=>
     refine uF ?_
     repeat refine uA ?_
     refine⟨(_,c+1),⟨by simp only;omega,hg2 rfl⟩,by simp only;omega,uKF⟩
   ·refine awp_exit ?_
    obtain rfl:c=k:=by omega
    have hdk:dupK y.devs c=true:=by
     rw[dupK,Bool.not_eq_true',List.any_eq_false]
     intro z hz
     obtain⟨j,hj,rfl⟩:=List.getElem_of_mem hz
     have hjl:j<c:=by rw[List.length_take] at hj;omega
     have:=hjc j hjl
     rw[List.getElem_take]
     simpa[show j<y.devs.length by omega] using this
    repeat refine uA ?_
    refine⟨(_,c+1),⟨by simp only;omega,hgood hdk⟩,by simp only;omega,uKF⟩
  refine awp_exit ?_
  rw[if_pos (range_all_true fun j hj'=>hj j (by omega)),if_neg (by simp)] at hE
  repeat refine uA ?_
  refine uW ?_;refine condP _ rfl (fun c6=>?_) (fun c6=>?_)
  ·rw[decide_eq_false (show ¬¬ct=0 from fun h=>h (by omega)),if_pos rfl] at hE
   subst hE
   repeat refine uA ?_
   (refine awp_ret (ret1 uRT ?_);try rfl)
  ·rw[decide_eq_true (show ¬ct=0 from by omega),if_neg (by decide)] at hE
   subst hE
   repeat refine uA ?_
   (refine awp_ret (ret1 uRT ?_);try rfl)
def winR (y:Ly):Int:=if validE y=0 then total y.nodes else 0
theorem validE_nodes {y:Ly} (h:validE y=0):∀i,i<y.nodes.length->nodeE y.nodes.length i (y.nodes.getD i default)=0:=by
 rw[validE] at h
 split at h
 ·cases h
 ·split at h
  ·rename_i h2;exact absurd h h2
  ·rename_i h2
   have h2:nodesE y.nodes=0:=Decidable.byContradiction h2
   intro i
   induction i using Nat.strongRecOn with
   |_ i ih=>
    intro hi
    refine Decidable.byContradiction fun hb=>?_
    rw[nodesE_bad hi (fun j hj=>ih j hj (by omega)) hb] at h2
    exact hb h2
theorem winR_le {y:Ly} (hN:y.nodes.length<=1000):0<=winR y/\winR y<=80:=by
 unfold winR
 split
 ·rename_i h
  have hn:=validE_nodes h
  have h1:total y.nodes<=80:=by
   rw[validE] at h
   split at h
   ·cases h
   ·split at h
    ·rename_i h2;exact absurd h h2
    ·split at h
     ·cases h
     ·omega
  have:=(totL_le (fun i hi=>⟨(nodeE_len (hn i hi)).1,by have:=(nodeE_len (hn i hi)).2.1;omega⟩) _ (Nat.le_refl y.nodes.length)).1
  exact⟨this,h1⟩
 ·omega
theorem lwindows_sat (y:Ly) (hs:Sml7 y):SatG Tryz.prog tab 57 [] [y.av] [] (I (winR y)):=by
 have h1:=validate_sat y hs
 have h2:=fun h:validE y=0=>ltotal_sat y hs.n fun i hi=>⟨(nodeE_len (validE_nodes h i hi)).1,by have:=(nodeE_len (validE_nodes h i hi)).2.1;omega⟩
 unfold winR
 generalize validE y=v at*
 refine uFN Tryz.func57 Tryz.ntmps57 ?_;intro w e X hC
 refine uA ?_
 refine uR ?_;intro K hK
 refine callF uTS (h1) uTS uTS uTS ?_;refine uS ?_
 refine hK _ ?_;clear hK K
 refine uW ?_;refine condP _ rfl (fun c=>?_) (fun c=>?_)
 ·rw[if_neg c]
  repeat refine uA ?_
  (refine awp_ret (ret1 uRT ?_);try rfl)
 ·have c':=Decidable.byContradiction c
  have h3:=h2 c'
  rw[if_pos c']
  refine uR ?_;intro K hK
  refine callF uTS (h3) uTS uTS uTS ?_;refine uS ?_
  refine hK _ ?_;clear hK K
  (refine awp_ret (ret1 uRT ?_);try rfl)
theorem rwindows_sat (y:Ly) (hs:Sml7 y):SatG Tryz.prog tab 26 [] [y.av] [] (I (winR y)):=by
 have h1:=rvalidate_sat y hs
 have h2:=fun h:validE y=0=>total_sat y hs.n fun i hi=>⟨(nodeE_len (validE_nodes h i hi)).1,by have:=(nodeE_len (validE_nodes h i hi)).2.1;omega⟩
 unfold winR
 generalize validE y=v at*
 refine uFN Tryz.func26 Tryz.ntmps26 ?_;intro w e X hC
 refine uA ?_
 refine uR ?_;intro K hK
 refine callF uTS (h1) uTS uTS uTS ?_;refine uS ?_
 refine hK _ ?_;clear hK K
 refine uW ?_;refine condP _ rfl (fun c=>?_) (fun c=>?_)
 ·rw[if_neg c]
  repeat refine uA ?_
  (refine awp_ret (ret1 uRT ?_);try rfl)
 ·have c':=Decidable.byContradiction c
  have h3:=h2 c'
  rw[if_pos c']
  refine uR ?_;intro K hK
  refine callF uTS (h3) uTS uTS uTS ?_;refine uS ?_
  refine hK _ ?_;clear hK K
  (refine awp_ret (ret1 uRT ?_);try rfl)
def clampN (n:Int):Int:=max 0 (min n 40)
theorem pbound_sat (y:Ly) (n:Int) (hs:Sml7 y):SatG Tryz.prog tab 25 [] [y.av,I n] [] (I (clampN n*winR y)):=by
 have h1:=lwindows_sat y hs
 have h2:=winR_le hs.n
 generalize winR y=wv at*
 have hce:(if 40<(if n<0 then 0 else n) then 40 else if n<0 then 0 else n)=clampN n:=by unfold clampN;split<;>split at*<;>omega
 have hc:0<=clampN n/\clampN n<=40:=by unfold clampN;omega
 have hm1:0<=clampN n*wv/\clampN n*wv<=3200:=⟨Int.mul_nonneg hc.1 h2.1,by
  have:=Int.mul_le_mul hc.2 h2.2 h2.1 (by omega:(0:Int)<=40)
  omega⟩
 refine uFN Tryz.func25 Tryz.ntmps25 ?_;intro w e X hC
 refine uA ?_
 refine uR ?_;intro K hK
 refine callF uTS (h1) uTS uTS uTS ?_;refine uS ?_
 simp only[hce]
 refine uH ?_
 refine hK _ ?_;clear hK K
 (refine awp_ret (ret1 uRT ?_);try rfl)
theorem rbound_sat (y:Ly) (n:Int) (hs:Sml7 y):SatG Tryz.prog tab 35 [] [y.av,I n] [] (I (clampN n*winR y)):=by
 have h1:=rwindows_sat y hs
 have h2:=winR_le hs.n
 generalize winR y=wv at*
 have hce:(if 0<(if 40<n then 40 else n) then(if 40<n then 40 else n) else 0)=clampN n:=by unfold clampN;split<;>split at*<;>omega
 have hc:0<=clampN n/\clampN n<=40:=by unfold clampN;omega
 have hm1:0<=clampN n*wv/\clampN n*wv<=3200:=⟨Int.mul_nonneg hc.1 h2.1,by
  have:=Int.mul_le_mul hc.2 h2.2 h2.1 (by omega:(0:Int)<=40)
  omega⟩
 refine uFN Tryz.func35 Tryz.ntmps35 ?_;intro w e X hC
 refine uA ?_
 refine uR ?_;intro K hK
 refine callF uTS (h1) uTS uTS uTS ?_;refine uS ?_
 simp only[hce]
 refine uH ?_
 refine hK _ ?_;clear hK K
 (refine awp_ret (ret1 uRT ?_);try rfl)
open Go.Plant
theorem nmI_len:∀i,i<11->(bs (nmI i)).length<=1000:=by decide+kernel
structure GoodY (A n:Nat) (y:Ly):Prop where
 g:Good A n y
 d:devE y.nodes y.devs=0
 dl:y.devs.length<=24
theorem gL_good (l:List Int) (a:Nat):∃A n,GoodY A n (gL l a).1:=by
 obtain⟨A,n,h⟩:=gL_nodes l a
 refine⟨A,n,h,?_,?_⟩
 ·have hx:∀i,i<(gL l a).1.nodes.length->0<=((gL l a).1.nodes.getD i default).ln:=fun i hi=>by
   have hs:=h.shp i (by rw[<-h.len];exact hi)
   have h1:=hs.ln
   have h2:=hs.l0
   omega
  exact devE_zero hx
 ·exact dvN_len _
section
variable {A n:Nat} {y:Ly}
theorem GoodY.sml (h:GoodY A n y):Sml7 y:=by
 have hl:=h.g.len
 have hn:=h.g.n11
 refine⟨by omega,by have:=h.dl;omega,fun i hi=>?_,fun i hi=>?_⟩
 ·have:=h.g.exl (m:=i) (by omega)
  rw[exitsN] at this
  split at this
  ·omega
  ·split at this<;>omega
 ·rw[h.g.nm i (by omega)];exact nmI_len i (by omega)
theorem GoodY.val (h:GoodY A n y):validE y=0:=by
 have hl:=h.g.len
 have hn:=h.g.n11
 have hd:=h.dl
 have ht:=h.g.tot
 have h0:entB y.nodes=true:=by
  rw[entB,List.any_eq_true]
  refine⟨_,mem_getD (d:=default) (show 0<y.nodes.length by omega),?_⟩
  rw[decide_eq_true_eq]
  exact(h.g.shp 0 (by omega)).k1.2 rfl
 rw[validE,if_neg (by omega),nodesE_ok (fun j hj=>by rw[hl];exact h.g.node (by omega)),if_neg (by simp),if_neg (by omega),named_good h.g,if_neg (by decide),zonesB,range_all_true (fun i hi=>h.g.zoned (by omega)),if_neg (by decide),h.g.ord,upL_len,if_neg (by omega),h.d,if_neg (by simp),h0,if_neg (by decide)]
theorem GoodY.sum (h:GoodY A n y):y.nodes.length<=11/\0<y.nodes.length/\(∀i,i<y.nodes.length->0<=(y.nodes.getD i default).ln/\(y.nodes.getD i default).ln<=1000):=by
 have hl:=h.g.len
 have hn:=h.g.n11
 refine⟨by omega,by omega,fun i hi=>?_⟩
 have hs:=h.g.shp i (by omega)
 have h1:=hs.ln
 have h2:=hs.l0
 omega
end
open Go.Plant
theorem cut2_fits {l:List Int} (hr:∀x∈l,I64 x):Fits (cut2 l):=⟨by rw[cut2,List.length_take];omega,fun x hx=>hr x (List.mem_of_mem_take hx)⟩
open Go.Plant
structure InsOk (d:List Int) (i j:Nat):Prop where
 ji:j<=i
 il:i<d.length
 srt:∀a b,a<b->b<=i->a≠j->b≠j->d.getD a 0<=d.getD b 0
 up:∀b,j<b->b<=i->d.getD j 0<=d.getD b 0
def SrtTo (d:List Int) (i:Nat):Prop:=∀a b,a<b->b<i->d.getD a 0<=d.getD b 0
theorem SrtTo.ins {d:List Int} {i:Nat} (h:SrtTo d i) (hi:i<d.length):InsOk d i i:=⟨Nat.le_refl _,hi,fun a b h1 h2 h3 h4=>h a b h1 (by omega),fun b h1 h2=>by omega⟩
theorem InsOk.stop {d:List Int} {i j:Nat} (h:InsOk d i j) (hj:j=0\/¬d.getD j 0<d.getD (j - 1) 0):SrtTo d (i+1):=by
 intro a b hab hb
 by_cases h1:a=j
 ·subst h1;exact h.up b hab (by omega)
 ·by_cases h2:b=j
  ·subst h2
   have hle:d.getD (b - 1) 0<=d.getD b 0:=by omega
   by_cases h3:a=b - 1
   ·subst h3;exact hle
   ·have:=h.srt a (b - 1) (by omega) (by have:=h.ji;omega) h1 (by omega)
    omega
  ·exact h.srt a b hab (by omega) h1 h2
theorem InsOk.next {d:List Int} {i j:Nat} (h:InsOk d i (j+1)) (hlt:d.getD (j+1) 0<d.getD j 0):InsOk ((d.set (j+1) (d.getD j 0)).set j (d.getD (j+1) 0)) i j:=by
 have hi:=h.il
 have hj:=h.ji
 have g:∀k,((d.set (j+1) (d.getD j 0)).set j (d.getD (j+1) 0)).getD k 0=if k=j then d.getD (j+1) 0 else if k=j+1 then d.getD j 0 else d.getD k 0:=fun k=>by
  have hjl:j<d.length:=by omega
  have hj1:j+1<d.length:=by omega
  by_cases h1:k=j
  ·subst h1
   rw[getD_set2,if_pos ⟨rfl,by rw[List.length_set];exact hjl⟩,if_pos rfl]
  ·rw[if_neg h1]
   have e1:((d.set (j+1) (d.getD j 0)).set j (d.getD (j+1) 0)).getD k 0=(d.set (j+1) (d.getD j 0)).getD k 0:=by rw[getD_set2,if_neg (fun h=>h1 h.1.symm)]
   rw[e1]
   by_cases h2:k=j+1
   ·subst h2
    rw[getD_set2,if_pos ⟨rfl,hj1⟩,if_pos rfl]
   ·rw[if_neg h2,getD_set2,if_neg (fun h=>h2 h.1.symm)]
 refine⟨by omega,by simpa using hi,fun a b hab hb ha hb2=>?_,fun b hb1 hb2=>?_⟩
 ·rw[g,g,if_neg ha,if_neg hb2]
  by_cases h1:b=j+1
  ·rw[if_neg (by omega),if_pos h1];exact h.srt a j (by omega) (by omega) (by omega) (by omega)
  ·rw[if_neg h1]
   by_cases h2:a=j+1
   ·rw[if_pos h2];exact h.srt j b (by omega) hb (by omega) (by omega)
   ·rw[if_neg h2];exact h.srt a b hab hb h2 h1
 ·rw[g,g,if_pos rfl,if_neg (by omega)]
  by_cases h1:b=j+1
  ·rw[if_pos h1];omega
  ·rw[if_neg h1];exact h.up b (by omega) hb2
theorem swap_perm {d:List Int} {j:Nat} (h:j+1<d.length):((d.set (j+1) (d.getD j 0)).set j (d.getD (j+1) 0)).Perm d:=by
 have e:d=d.take j++d.getD j 0::d.getD (j+1) 0::d.drop (j+2):=by
  have e1:d.getD j 0=d[j]:=by simp[show j<d.length by omega]
  have e2:d.getD (j+1) 0=d[j+1]:=by simp[h]
  rw[e1,e2,<-List.drop_eq_getElem_cons h,<-List.drop_eq_getElem_cons (show j<d.length by omega),List.take_append_drop]
 generalize d.getD j 0=x at*
 generalize d.getD (j+1) 0=z at*
 have hl:(d.take j).length=j:=by simp;omega
 generalize d.take j=A at*
 generalize d.drop (j+2)=Z at*
 subst e
 have s1:(A++x::z::Z).set (j+1) x=A++x::x::Z:=by
  rw[List.set_append_right _ _ (by omega),hl,Nat.add_sub_cancel_left];rfl
 have s2:(A++x::x::Z).set j z=A++z::x::Z:=by
  rw[List.set_append_right _ _ (by omega),hl,Nat.sub_self];rfl
 rw[s1,s2]
 exact(List.Perm.swap x z Z).append_left A
theorem SrtTo.pw {d:List Int} (h:SrtTo d d.length):d.Pairwise (·<=·):=by
 rw[List.pairwise_iff_getElem]
 intro i j hi hj hij
 have:=h i j hij hj
 simpa[hi,hj] using this
theorem isortI_sat (l r:List Int) (hl:l.length<=1000) (hp:r.Perm l) (hr:r.Pairwise (·<=·)):
  SatG Tryz.prog tab 145 [(0,some (0, .own 3 1 (ints l)))] [.slO 0 0 0 l.length,I 0,I l.length] [(0,some (0, .own 3 1 (ints r)))] (.tup []):=by
 refine uFN Tryz.func145 Tryz.ntmps145 ?_;intro w e X hC
 repeat refine uA ?_
 refine uW ?_
 have h01:(0:Int)+1=((0+1:Nat):Int):=rfl
 refine awp_loopW (fun i:Nat×Nat×List Int=>⟨[(0, .slO 0 0 0 l.length),(1,I 0),(2,I l.length),(6,I (i.2.1+1:Nat))],(0,some (0, .own 3 1 (ints i.2.2)))::[],i.1⟩) (fun i=>i.2.2.Perm l/\SrtTo i.2.2 (i.2.1+1)) (fun i=>l.length - i.2.1) (_,0,l) ⟨.refl _,fun a b h1 h2=>by simp only at h2;omega⟩ (uKF) ?_
 rintro⟨ck,i,d⟩ ⟨hd,hs⟩
 simp only at hd hs
 have hdl:=hd.length_eq
 refine uA ?_
 refine uW ?_;refine condP _ rfl (fun h=>?_) (fun h=>?_)
 ·have h1:i+1<l.length:=by omega
  refine awp_skip ?_
  refine awp_seq ?_
  refine awp_merge (fun q:Nat×List Int=>⟨[(0, .slO 0 0 0 l.length),(1,I 0),(2,I l.length),(6,I (i+1:Nat))],(0,some (0, .own 3 1 (ints q.2)))::[],q.1⟩) (fun q=>q.2.Perm l/\SrtTo q.2 (i+2)) ?_ ?_
  ·refine uA ?_
   refine uW ?_
   refine awp_loopW (fun k:Nat×Nat×List Int=>⟨[(0, .slO 0 0 0 l.length),(1,I 0),(2,I l.length),(6,I (i+1:Nat)),(7,I k.2.1)],(0,some (0, .own 3 1 (ints k.2.2)))::[],k.1⟩) (fun k=>k.2.2.Perm l/\InsOk k.2.2 (i+1) k.2.1) (fun k=>k.2.1) (_,i+1,d) ⟨hd,hs.ins (by omega)⟩ (uKF) ?_
   rintro⟨ck2,j,d2⟩ ⟨hp2,hi2⟩
   simp only at hp2 hi2
   have hl2:=hp2.length_eq
   have hji:=hi2.ji
   cases j with
   |zero=>
    have d0:decide ((0:Int)<((0:Nat):Int))=false:=rfl
    refine uE1 @d0 ?_;intro K hK
    refine hK _ ?_;clear hK K
    refine uF ?_
    refine awp_exit ?_
    refine⟨(_,d2),⟨hp2,hi2.stop (.inl rfl)⟩,uKF⟩
   |succ j=>
    have d0:decide ((0:Int)<((j+1:Nat):Int))=true:=decide_eq_true (by omega)
    have e1:((j+1:Nat):Int) - 1=(j:Int):=by omega
    have hj1:j+1<d2.length:=by omega
    have hj0:j<d2.length:=by omega
    have hls:=less_sat (d2.getD (j+1) 0) (d2.getD j 0)
    have hst:=fun h=>hi2.stop (.inr h)
    have hnx:=hi2.next
    have hpm:=swap_perm hj1
    have g1:(d2.set (j+1) (d2.getD j 0)).length=l.length:=by rw[List.length_set];exact hl2
    rw[show j+1 - 1=j from rfl] at hst
    clear hi2
    generalize ex:d2.getD (j+1) 0=x at*
    generalize ez:d2.getD j 0=z at*
    by_cases hxz:x<z
    ·have dx:decide (x<z)=true:=decide_eq_true hxz
     refine uE1 (uI @d0 (uI @e1 (uI (ints_getD hj1) (uI (ints_getD hj0) (uI @ex (uI @ez @hl2)))))) ?_;intro K hK
     refine uH ?_
     refine callF uTS (hls) uTS uTS uTS ?_;refine uS ?_
     first|refine uS1 @dx ?_|exact uX1 @dx
     refine uH ?_
     refine hK _ ?_;clear hK K
     refine uT ?_
     refine uD1 (uI @e1 (uI (ints_getD hj1) (uI (ints_getD hj0) (uI @ex (uI @ez (uI @hl2 @g1)))))) ?_;intro K hK
     refine uH ?_
     refine hK _ ?_;clear hK K
     repeat refine uA1 @e1 ?_
     refine⟨(_,j,(d2.set (j+1) z).set j x),⟨hpm.trans hp2,hnx hxz⟩,by simp only;omega,uKF⟩
    ·have dx:decide (x<z)=false:=decide_eq_false hxz
     refine uE1 (uI @d0 (uI @e1 (uI (ints_getD hj1) (uI (ints_getD hj0) (uI @ex (uI @ez @hl2)))))) ?_;intro K hK
     refine uH ?_
     refine callF uTS (hls) uTS uTS uTS ?_;refine uS ?_
     first|refine uS1 @dx ?_|exact uX1 @dx
     refine uH ?_
     refine hK _ ?_;clear hK K
     refine uF ?_
     refine awp_exit ?_
     refine⟨(_,d2),⟨hp2,hst hxz⟩,uKF⟩
  ·rintro⟨ck2,d2⟩ ⟨hp2,hs2⟩
   simp only at hp2 hs2
   repeat refine uA ?_
   refine⟨(_,i+1,d2),⟨hp2,hs2⟩,by simp only;omega,uKF⟩
 ·refine awp_exit ?_
  have hdr:d=r:=List.Perm.eq_of_pairwise (fun a b _ _ h1 h2=>Int.le_antisymm h1 h2) (SrtTo.pw fun a b h1 h2=>hs a b h1 (by omega)) hr (hd.trans hp.symm)
  subst hdr
  show ∃σ D,RetG _ Tryz.f145.results.toList σ D _ _ _;rw[show Tryz.f145.results.toList=[] from rfl];(refine retG [(0,0,0,0)] uRG (by simp) (by simp) (by simp) uTG uTG uTG ?_ ?_;all_goals (first|refine uSG ?_|exact uXG|skip))
theorem pdqI_sat (l r:List Int) (lim:Int) (hl:l.length<=12) (hp:r.Perm l) (hr:r.Pairwise (·<=·)):
  SatG Tryz.prog tab 110 [(0,some (0, .own 3 1 (ints l)))] [.slO 0 0 0 l.length,I 0,I l.length,I lim] [(0,some (0, .own 3 1 (ints r)))] (.tup []):=by
 refine uFN Tryz.func110 Tryz.ntmps110 ?_;intro w e X hC
 repeat refine uA ?_
 refine uW ?_
 refine awp_loopW (fun k:Nat=>⟨[(0, .slO 0 0 0 l.length),(1,I 0),(2,I l.length)],(0,some (0, .own 3 1 (ints l)))::[],k⟩) (fun _=>True) (fun _=>0) _ trivial (uKF) ?_
 rintro k -
 have e1:(l.length:Int) - 0=l.length:=by omega
 repeat refine uA1 @e1 ?_
 refine uW ?_;refine condP _ rfl (fun h=>?_) (fun h=>?_)
 ·refine uR ?_;intro K hK
  refine callE [(0,0,0,0)] [(0,0,0,0)] true ((isortI_sat l r (by omega) hp hr)) uTR uTR uTE uTE uTE uTE uTE uTE uTE uTE uTE uTE uTE uTE uTE uTE uTE ?_;refine uQS ?_
  refine hK _ ?_;clear hK K
  refine uW ?_
  refine awp_ret ?_;rw[show Tryz.f110.results.toList=[] from rfl];(refine retG [(0,0,0,0)] uRG (by simp) (by simp) (by simp) uTG uTG uTG ?_ ?_;all_goals (first|refine uSG ?_|exact uXG|skip))
 ·omega
theorem sortI_sat (l r:List Int) (hl:l.length<=12) (hp:r.Perm l) (hr:r.Pairwise (·<=·)):
  SatG Tryz.prog tab 64 [(0,some (0, .own 3 1 (ints l)))] [.slO 0 0 0 l.length] [(0,some (0, .own 3 1 (ints r)))] (.tup []):=by
 have e1:=u64_nat (a:=l.length) (by omega)
 have hlen:=len_sat l.length (by omega)
 generalize [0,1,2,2,3,3,3,3,4,4,4,4,4].getD l.length (0:Int)=lim at hlen
 refine uFN Tryz.func64 Tryz.ntmps64 ?_;intro w e X hC
 refine uA ?_
 refine uR1 @e1 ?_;intro K hK
 refine callF uTS (hlen) uTS uTS uTS ?_;refine uS ?_
 refine callE [(0,0,0,0)] [(0,0,0,0)] true ((pdqI_sat l r lim hl hp hr)) uTR uTR uTE uTE uTE uTE uTE uTE uTE uTE uTE uTE uTE uTE uTE uTE uTE ?_;refine uQS ?_
 refine hK _ ?_;clear hK K
 show ∃σ D,RetG _ Tryz.f64.results.toList σ D _ _ _;rw[show Tryz.f64.results.toList=[] from rfl];(refine retG [(0,0,0,0)] uRG (by simp) (by simp) (by simp) uTG uTG uTG ?_ ?_;all_goals (first|refine uSG ?_|exact uXG|skip))
end Go.Proofs.YtkhjenddapaejaaGreatDoor
