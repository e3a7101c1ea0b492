/- Lemmas towards plantSteps_card: no conditions of their own beyond those that each one states. -/
import Derived.Test.YtkhjenddapaejaaGreatDoorA4
import Derived.Shelf.Spec.SlicesInsertGrow
import Derived.Ground.Names2Prog
set_option linter.all false
set_option linter.unusedSimpArgs false
set_option linter.unusedVariables false
set_option linter.deprecated false
namespace Go.Proofs.YtkhjenddapaejaaGreatDoor
open Go Go.Sym
open Go.Shelf Go.Lib
def Tryz.lays21_ren:Go.Shelf.Ren:=⟨fun|21=>124|27=>165|28=>166|35=>184|39=>187|n=>n,fun|22=>22|3=>3|4=>4|0=>0|n=>n,fun|n=>n⟩
theorem Tryz.lays21:Go.Proofs.Lays2.n21 Tryz.prog Tryz.lays21_ren:={
 mixed:=by kernel_rfl
 f21:=Tryz.func124.trans (congrArg some (by kernel_rfl))
 f27:=Tryz.func165.trans (congrArg some (by kernel_rfl))
 f28:=Tryz.func166.trans (congrArg some (by kernel_rfl))
 f35:=Tryz.func184.trans (congrArg some (by kernel_rfl))
 f39:=Tryz.func187.trans (congrArg some (by kernel_rfl))
 t0:=Tryz.underlying0
 a0:=Tryz.isAgg0
 z0:=Tryz.sizeOf0
 v0:=Tryz.zeroValue0
 t3:=Tryz.underlying3
 a3:=Tryz.isAgg3
 z3:=Tryz.sizeOf3
 v3:=Tryz.zeroValue3
 t4:=Tryz.underlying4
 a4:=Tryz.isAgg4
 z4:=Tryz.sizeOf4
 v4:=Tryz.zeroValue4
 t22:=Tryz.underlying22
 a22:=Tryz.isAgg22
 z22:=Tryz.sizeOf22
 v22:=Tryz.zeroValue22
 i3:=by kernel_rfl}
structure SetW (b:Nat) (w w':World):Prop where
 size:w'.heap.size=w.heap.size
 os:w'.os=w.os
 tape:w'.tape=w.tape
 output:w'.output=w.output
 other:∀i,i≠b->w'.heap[i]?=w.heap[i]?
 here:∀cs t f,w.heap[b]?=some (.cells cs t f)->∃cs',w'.heap[b]?=some (.cells cs' t f)/\cs'.size=cs.size
theorem SetW.refl (b:Nat) (w:World):SetW b w w:=⟨rfl,rfl,rfl,rfl,fun _ _=>rfl,fun cs _ _ h=>⟨cs,h,rfl⟩⟩
theorem SetW.trans {b:Nat} {w w' w'':World} (h:SetW b w w') (h2:SetW b w' w''):SetW b w w'':=
 ⟨h2.size.trans h.size,h2.os.trans h.os,h2.tape.trans h.tape,h2.output.trans h.output,fun i hi=>(h2.other i hi).trans (h.other i hi),fun cs t f hc=>by
  obtain⟨c1,e1,e2⟩:=h.here cs t f hc
  obtain⟨c2,e3,e4⟩:=h2.here c1 t f e1
  exact⟨c2,e3,e4.trans e2⟩⟩
theorem SetW.drew (b:Nat) (w:World):SetW b w w.drew:=⟨rfl,rfl,rfl,rfl,fun _ _=>rfl,fun cs _ _ h=>⟨cs,h,rfl⟩⟩
theorem SetW.set (b o:Nat) (v:Value) (w:World):SetW b w (w.setCell ⟨b,o,none⟩ v):=by
 refine⟨?_,rfl,rfl,rfl,?_,?_⟩
 ·simp[World.setCell]
 ·intro i hi
  simp only[World.setCell,Array.getElem?_modify]
  rw[if_neg (fun h=>hi h.symm)]
 ·intro cs t f h
  refine⟨cs.setIfInBounds o v,?_,by simp⟩
  simp only[World.setCell,Array.getElem?_modify,if_true,h,Option.map_some]
  rfl
theorem SetW.cells (b:Nat):∀(vs:List Value) (o:Nat) (w:World),SetW b w (w.setCells b o vs)
 |[],_,w=> .refl b w
 |v::r,o,w=>(SetW.set b o v w).trans (SetW.cells b r (o+1) _)
theorem own_ret {w w':World} {e:Env} {hp:Hp} (hr:HRel w e (Glt 1) hp) (hz:∀b,e.z b->b<w.heap.size) {B cap t:Nat} {l:List Int} {cs:Array Value}
  (hB:w.heap.size<=B\/ObjB e B) (hlt:B<w'.heap.size) (hw:w'.heap[B]?=some (.cells cs t (0,0))) (hcs:cs.size=cap) (hcap:cap<=maxLen) (hn:l.length<=cap)
  (hval:∀j,j<l.length->cs[j]?=some (.int .i64 (l.getD j 0))) (hos:w'.os=w.os) (ht:w'.tape=w.tape) (ho:w'.output=w.output) (hsz:w.heap.size<=w'.heap.size)
  (hsame:∀b,b<w.heap.size->b≠B->w'.heap[b]?=w.heap[b]?):
  ∃e',HRel w' e' (Glt 2) [(100,some (1, .own t 1 (ints l)))]/\VR w' (UE e') e' (Glt 2) (.slO 100 1 0 l.length) (.slice (some ⟨B,0,none⟩) l.length cap)/\Ext w e (Glt 1) w' e' (Glt 2)/\e'.z=e.z/\
   (∀b,OwnB e' b->w.heap.size<=b\/OwnB e b)/\FrameE e w w':=by
 obtain⟨e',he'⟩:∃e':Env,e'=⟨fun i=>if i=100 then some ⟨1,some (B,cap),1,l.length⟩ else none,e.z,fun _=>none⟩:=⟨_,rfl⟩
 have hm:∀i ee,e' i=some ee->i=100/\ee=⟨1,some (B,cap),1,l.length⟩:=by
  intro i ee h
  subst he'
  by_cases hi:i=100
  ·subst hi;simp at h;exact⟨rfl,h.symm⟩
  ·simp[hi] at h
 have h100:e' 100=some ⟨1,some (B,cap),1,l.length⟩:=by subst he';simp
 have hzz:e'.z=e.z:=by subst he';rfl
 have hkid:∀b,e'.kid b=none:=by subst he';intro b;rfl
 have hnzB:¬e.z B:=by
  rcases hB with h|h
  ·intro h2;have:=hz B h2;omega
  ·exact hr.obj_nz h
 have hown:∀b,OwnB e' b->b=B:=by
  intro b hb
  rcases hb with ⟨id,ee,c,h1,h2⟩|⟨_,_,h,_⟩
  ·obtain⟨_,rfl⟩:=hm _ _ h1
   cases h2;rfl
  ·rw[hkid] at h;cases h
 have hownB:w.heap.size<=B\/OwnB e B:=hB.imp id .inl
 refine⟨e',⟨?_,?_,?_,?_,?_,?_,?_,?_⟩,?_,⟨hsz,?_,?_,?_,?_⟩,hzz,?_,⟨hos,ht,ho,hsz,?_⟩⟩
 ·intro id h
  cases hx:e' id with
  |none=>rfl
  |some ee=>
   obtain⟨rfl,_⟩:=hm _ _ hx
   simp[Hp.get] at h
 ·intro id g ob h
  simp only[Hp.get] at h
  by_cases hi:100=id
  ·rw[if_pos hi] at h
   cases h
   subst hi
   refine⟨_,h100,rfl,by show 1<2;omega,rfl,by rw[ints_length],by omega,?_,?_,?_⟩
   ·intro i h;simp[ints,AV.cells,I]
   ·intro i h j h';simp[ints,AV.cells,I,AV.one]
   ·refine⟨hcap,by rw[ints_length];exact hn,cs,hw,by omega,?_⟩
    intro i h j h'
    have hj:j=0:=by simp[ints,AV.cells,I] at h';omega
    subst hj
    have hi2:i<l.length:=by rwa[ints_length] at h
    have e1:(ints l)[i].cells[0]=I (l.getD i 0):=by simp[ints,AV.cells,I,hi2]
    have e2:cs.getD (i*1+0) undef= .int .i64 (l.getD i 0):=by
     rw[Array.getD_eq_getD_getElem?,show i*1+0=i by omega,hval i hi2];rfl
    rw[e1,e2]
    exact .val _ _ (.dat _ _ (.lit _ rfl))
  ·rw[if_neg hi] at h;cases h
 ·intro id id' ee ee' b c c' h1 h2 _ _
  rw[(hm _ _ h1).1,(hm _ _ h2).1]
 ·intro id ee b c h1 h2
  obtain⟨_,rfl⟩:=hm _ _ h1
  cases h2;exact hlt
 ·intro id ee b c h1 h2
  obtain⟨_,rfl⟩:=hm _ _ h1
  cases h2;rw[hzz];exact hnzB
 ·intro b B' c h;rw[hkid] at h;cases h
 ·intro b _;exact hkid b
 ·intro b B' c h;rw[hkid] at h;cases h
 ·refine .slO _ _ _ _ _ (by show 1<2;omega) rfl ?_
  intro ee h _
  obtain⟨_,rfl⟩:=hm _ _ h
  refine⟨by simp,fun _=>⟨cap,by simp,by simp,hn⟩⟩
 ·intro g hg;exact Nat.lt_of_lt_of_le hg (by omega)
 ·intro b hb hu
  refine⟨by rw[hzz];exact hu.1,fun h=>?_⟩
  have:=hown b h
  subst this
  rcases hownB with h|h
  ·omega
  ·exact hu.2 h
 ·intro b hb hu
  refine hsame b hb fun h=>?_
  subst h
  rcases hownB with h|h
  ·omega
  ·exact hu.2 h
 ·intro id ee h hg
  obtain⟨_,rfl⟩:=hm _ _ h
  exact absurd hg (by show ¬(1<1);omega)
 ·intro b h
  have:=hown b h
  subst this
  exact hownB
 ·intro b hb hu
  refine hsame b hb fun h=>?_
  subst h
  rcases hownB with h|h
  ·omega
  ·exact hu h
theorem ints_cellv {w:World} {e:Env} {G:Nat->Prop} {t:Nat} {l:List Int} {ee:EE} {b bcap:Nat} (ho:ORel w e G (.own t 1 (ints l)) ee) (hb:ee.blk=some (b,bcap)):
  bcap<=maxLen/\l.length<=bcap/\∃cs,w.heap[b]?=some (.cells cs t (0,0))/\cs.size=bcap/\∀j,j<l.length->cs[j]?=some (.int .i64 (l.getD j 0)):=by
 obtain⟨_,_,_,h4,h5,h6⟩:=ho
 rw[hb] at h6
 obtain⟨h7,h8,cs,h9,h10,h11⟩:=h6
 rw[ints_length] at h8
 refine⟨h7,h8,cs,h9,by omega,fun j hj=>?_⟩
 have hjl:j<(ints l).length:=by rwa[ints_length]
 have hc:(ints l)[j].cells=[I (l.getD j 0)]:=by simp[ints,AV.cells,I,hj]
 have:=h11 j hjl 0 (by rw[hc];simp)
 have e1:(ints l)[j].cells[0]'(by rw[hc];simp)=I (l.getD j 0):=by simp only[hc,List.getElem_cons_zero]
 rw[e1] at this
 cases this with
 |val _ _ h=>
  have e2:=h.lit_inv.1
  rw[Array.getD_eq_getD_getElem?,show j*1+0=j by omega,Array.getElem?_eq_getElem (by omega)] at e2
  rw[Array.getElem?_eq_getElem (by omega)]
  exact congrArg some e2
theorem setCells_get {w:World} {b o:Nat} {vs:List Value} {j:Nat} {v:Value} (h:∀j,j<vs.length->(w.cell? ⟨b,o+j,none⟩).isSome=true)
  (hj:(o<=j/\j<o+vs.length/\vs[j - o]?=some v)\/((j<o\/o+vs.length<=j)/\w.cell? ⟨b,j,none⟩=some v)):(w.setCells b o vs).cell? ⟨b,j,none⟩=some v:=by
 rcases hj with ⟨h1,h2,h3⟩|⟨h1,h2⟩
 ·have:=World.cell?_setCells_in b vs o w h (j - o) (by omega)
  rw[show o+(j - o)=j by omega] at this
  rw[this,<-h3,List.getElem?_eq_getElem (by omega)]
 ·rw[World.cell?_setCells_out b vs o w ⟨b,j,none⟩ (fun _ _=>h1)]
  exact h2
theorem cell_heap {w:World} {b t j:Nat} {cs:Array Value} {f:Nat×Nat} (h:w.heap[b]?=some (.cells cs t f)):w.cell? ⟨b,j,none⟩=cs[j]?:=by simp[World.cell?,h]
theorem frozen_heap {w:World} {b t j:Nat} {cs:Array Value} (h:w.heap[b]?=some (.cells cs t (0,0))):w.frozen? ⟨b,j,none⟩=false:=by simp[World.frozen?,h]
theorem ins_get {l:List Int} {x:Int} {i j:Nat} (hi:i<=l.length) (hj:j<l.length+1):(l.take i++[x]++l.drop i).getD j 0=if j<i then l.getD j 0 else if j=i then x else l.getD (j - 1) 0:=by
 have htl:(l.take i).length=i:=by rw[List.length_take];omega
 simp only[List.getD_eq_getElem?_getD,List.append_assoc]
 by_cases h1:j<i
 ·rw[if_pos h1,List.getElem?_append_left (by omega),List.getElem?_take,if_pos h1]
 ·rw[if_neg h1,List.getElem?_append_right (by omega),htl]
  by_cases h2:j=i
  ·subst h2;rw[if_pos rfl];simp
  ·rw[if_neg h2,List.getElem?_append_right (by simp;omega),List.getElem?_drop]
   simp only[List.length_singleton]
   rw[show i+(j - i - 1)=j - 1 by omega]
theorem encs_get {l:List Int} {j:Nat} {v:Value} (h:(l.map fun y=>Value.int .i64 y)[j]?=some v):j<l.length/\v= .int .i64 (l.getD j 0):=by
 obtain⟨hj,e⟩:=List.getElem?_eq_some_iff.1 h
 have hj':j<l.length:=by simpa using hj
 refine⟨hj',?_⟩
 rw[<-e];simp[hj']
theorem insert_sat (l:List Int) (x:Int) (i:Nat) (hi:i<=l.length) (hl:l.length<=1000):
  SatG Tryz.prog tab 124 [(0,some (0, .own 3 1 (ints l))),(1,some (0, .own 3 1 (ints [x])))] [.slO 0 0 0 l.length,I i, .slO 1 0 0 1]
   [(100,some (1, .own 3 1 (ints (l.take i++[x]++l.drop i))))] (.slO 100 1 0 (l.take i++[x]++l.drop i).length):=by
 refine⟨⟨Tryz.f124,Tryz.func124,by rfl,by rfl⟩,?_⟩
 intro w e vals hr hz _ hlen hargs
 have hlz:(l.take i++[x]++l.drop i).length=l.length+1:=by simp;omega
 obtain⟨v0,v1,v2,rfl⟩:∃v0 v1 v2,vals=#[v0,v1,v2]:=by
  have h3:vals.size=3:=hlen.symm
  refine⟨vals[0],vals[1],vals[2],?_⟩
  apply Array.ext
  ·simpa using h3
  ·intro j h1 h2
   have:j<3:=by omega
   rcases(by omega:j=0\/j=1\/j=2) with rfl|rfl|rfl<;>rfl
 have a0:VR w (UE e) e (Glt 1) (.slO 0 0 0 l.length) v0:=hargs 0 (by simp)
 have a1:VR w (UE e) e (Glt 1) (I i) v1:=hargs 1 (by simp)
 have a2:VR w (UE e) e (Glt 1) (.slO 1 0 0 1) v2:=hargs 2 (by simp)
 obtain rfl:v1= .int .i64 i:=a1.lit_inv.1
 obtain⟨ee,he,hg0,hn0,hok,hor⟩:=slO_val hr a0 rfl (by rw[ints_length];omega)
 obtain⟨ee2,he2,hg2,hn2,hok2,hor2⟩:=slO_val hr a2 rfl rfl
 cases hb2:ee2.blk with
 |none=>
  obtain⟨_,_,_,_,_,h6⟩:=hor2
  rw[hb2] at h6
  cases h6
 |some q2=>
 obtain⟨vb,vcap⟩:=q2
 obtain⟨hv1,hv2,vc,hv3,hv4,hv5⟩:=ints_cellv hor2 hb2
 unfold SlOK at hok2
 rw[hb2] at hok2
 obtain⟨c2,rfl,hv6,hv7⟩:=hok2
 have hxv:∀j v,[Value.int .i64 x][j]?=some v->w.cell? ⟨vb,0*ee2.k+j,none⟩=some v:=by
  intro j v h
  cases j with
  |zero=>
   cases h
   rw[Nat.zero_mul,Nat.zero_add,cell_heap hv3,hv5 0 (by simp)];rfl
  |succ j=>simp at h
 have h1v:∀v∈[Value.int .i64 x],v.oneCell'=true:=by simp[Value.oneCell']
 have hen:(l.map fun y=>Value.int .i64 y).length=l.length:=by simp
 have h1c:∀v∈(l.map fun y=>Value.int .i64 y),v.oneCell'=true:=by simp[Value.oneCell']
 have fin:∀(B cap t:Nat) (w':World) (cs:Array Value),(w.heap.size<=B\/ObjB e B)->B<w'.heap.size->w'.heap[B]?=some (.cells cs t (0,0))->t=3->cs.size=cap->cap<=maxLen->l.length+1<=cap->
   (∀j,j<l.length+1->w'.cell? ⟨B,j,none⟩=some (.int .i64 (if j<i then l.getD j 0 else if j=i then x else l.getD (j - 1) 0)))->w'.os=w.os->w'.tape=w.tape->w'.output=w.output->w.heap.size<=w'.heap.size->
   (∀b,b<w.heap.size->b≠B->w'.heap[b]?=w.heap[b]?)->
   ∃v e',Ending.returned (.slice (some ⟨B,0,none⟩) (l.length+1) cap)= .returned v/\HRel w' e' (Glt 2) [(100,some (1, .own 3 1 (ints (l.take i++[x]++l.drop i))))]/\
    VR w' (UE e') e' (Glt 2) (.slO 100 1 0 (l.take i++[x]++l.drop i).length) v/\Ext w e (Glt 1) w' e' (Glt 2)/\e'.z=e.z/\(∀b,OwnB e' b->w.heap.size<=b\/OwnB e b)/\FrameE e w w':=by
  intro B cap t w' cs h1 h2 h3 ht h4 h5 h6 h7 h8 h9 h10 h11 h12
  subst ht
  obtain⟨e',q1,q2,q3⟩:=own_ret (l:=l.take i++[x]++l.drop i) hr hz h1 h2 h3 h4 h5 (by omega) (fun j hj=>by
   have:=h7 j (by omega)
   rw[cell_heap h3] at this
   rw[this,ins_get hi (by omega)]) h8 h9 h10 h11 h12
  rw[hlz] at q2 ⊢
  exact⟨_,e',rfl,q1,q2,q3⟩
 have cal:∀Q:Ending->World->Prop,Calls Tryz.prog (Tryz.lays21_ren.f 21) #[v0, .int .i64 i, .slice (some ⟨vb,0*ee2.k,none⟩) 1 c2] w Q->Calls Tryz.prog 124 #[v0, .int .i64 i, .slice (some ⟨vb,0*ee2.k,none⟩) 1 c2] w Q:=fun Q h=>h
 have ht3:Tryz.lays21_ren.t 3=3:=rfl
 refine cal _ ?_
 cases hb:ee.blk with
 |none=>
  obtain⟨_,_,_,_,_,h6⟩:=hor
  rw[hb] at h6
  have hl0:l=[]:=by
   have:(ints l).length=0:=by rw[h6];rfl
   rw[ints_length] at this
   exact List.eq_nil_of_length_eq_zero this
  subst hl0
  unfold SlOK at hok
  rw[hb] at hok
  obtain⟨_,_,a,rfl⟩:=hok
  obtain rfl:i=0:=by simpa using hi
  refine(Any2.slices_Insert_int_end_grow Tryz.lays21 a 0 0 vb (0*ee2.k) 1 c2 [] [.int .i64 x] w (by omega) (by omega) (by omega) (by omega) rfl rfl (fun _=>rfl) (fun _ _ j v h=>by simp at h) hxv h1v).mono ?_
  rintro en w' ⟨rfl,hw'⟩
  generalize hG:grownCap w (0+1) 0 (Tryz.lays21_ren.t 3)=G at*
  have hG1:0+1<=G:=by rw[<-hG];exact grownCap_ge w _ _ _
  have hG2:G<=maxLen:=by rw[<-hG];exact grownCap_le_maxLen w _ _ _ (by unfold maxLen;omega)
  have hsz:w'.heap.size=w.heap.size+1:=by rw[hw'];exact size_new w.drew _
  refine fin w.heap.size G _ w' _ (.inl (Nat.le_refl _)) (by omega) (by rw[hw'];exact heap_new w.drew _) ht3 ?_ hG2 (by simpa using hG1) ?_ (by rw[hw'];rfl) (by rw[hw'];rfl) (by rw[hw'];rfl) (by omega) ?_
  ·simp[size_zeroCells,Value.cells];omega
  ·intro j hj
   have hj0:j=0:=by simpa using hj
   subst hj0
   rw[cell_heap (by rw[hw'];exact heap_new w.drew _)]
   simp only[List.nil_append]
   rw[Array.getElem?_append_left (by simp)];rfl
  ·intro b hb _
   rw[hw']
   exact(Grow.drew_alloc w _).same b hb
 |some q=>
 obtain⟨b,bcap⟩:=q
 obtain⟨hc1,hc2,cs,hc3,hc4,hc5⟩:=ints_cellv hor hb
 unfold SlOK at hok
 rw[hb] at hok
 obtain⟨c,rfl,hc6,hc7⟩:=hok
 obtain rfl:c=bcap:=by omega
 have hbo:ObjB e b:= .of he hb
 have hbl:b<w.heap.size:=hr.obj_lt hbo
 have hvb:vb≠b:=by
  intro h
  subst h
  have:=hr.inj 0 1 ee ee2 _ _ _ he he2 hb hb2
  omega
 have hvl:vb<w.heap.size:=hr.obj_lt (.of he2 hb2)
 have hcs:∀j v,(l.map fun y=>Value.int .i64 y)[j]?=some v->w.cell? ⟨b,0+j,none⟩=some v:=by
  intro j v h
  obtain⟨hj,rfl⟩:=encs_get h
  rw[Nat.zero_add,cell_heap hc3,hc5 j hj]
 have hsp:∀j,j<c->(w.cell? ⟨b,0+j,none⟩).isSome=true:=by
  intro j hj
  rw[Nat.zero_add,cell_heap hc3,Array.getElem?_eq_getElem (by omega)];rfl
 have hfz:∀j,w.frozen? ⟨b,j,none⟩=false:=fun j=>frozen_heap hc3
 have hmx:c<=9223372036854775807:=by unfold maxLen at hc1;omega
 by_cases hroom:l.length+1<=c
 ·by_cases hlt:i<l.length
  ·refine(Any2.slices_Insert_int_shift Tryz.lays21 b (0*ee.k) l.length c i vb (0*ee2.k) 1 c2 (l.map fun y=> .int .i64 y) [.int .i64 x] w hlt (by omega) hroom hmx hvb hen rfl (by simpa using hcs) (fun j hj=>by rw[Nat.zero_mul];exact hsp j (by omega)) (fun j hj=>hfz _) hxv h1c h1v _ _ _ _ (by simp[World.shape?,hv3];exact⟨rfl,rfl⟩) (by simp[World.shape?,hc3];exact⟨rfl,rfl⟩) (by omega) (frozen_heap hv3) (frozen_heap hv3)).mono ?_
   rintro en w' ⟨rfl,hw'⟩
   simp only[Nat.zero_mul,Nat.zero_add] at hw' ⊢
   have S1:SetW b w (w.drew.setCells b (i+1) ((l.map fun y=>Value.int .i64 y).drop i)):=(SetW.drew b w).trans (SetW.cells b _ _ _)
   have S2:SetW b w w':=by rw[hw'];exact S1.trans (SetW.cells b _ _ _)
   obtain⟨cs1,k1,k2⟩:=S1.here _ _ _ hc3
   obtain⟨cs2,k3,k4⟩:=S2.here _ _ _ hc3
   refine fin b c _ w' cs2 (.inr hbo) (by rw[S2.size];exact hbl) k3 rfl (by omega) hc1 hroom ?_ S2.os S2.tape S2.output (by rw[S2.size];exact Nat.le_refl _) (fun b' _ h=>S2.other b' h)
   intro j hj
   rw[hw']
   refine setCells_get (fun t ht=>by rw[cell_heap k1,Array.getElem?_eq_getElem (by simp only[List.length_singleton] at ht;omega)];rfl) ?_
   by_cases h2:j=i
   ·left
    subst h2
    simp
   ·right
    refine⟨by simp only[List.length_singleton];omega,?_⟩
    rw[if_neg h2]
    refine setCells_get (fun t ht=>by rw[cell_heap (w:=w.drew) hc3,Array.getElem?_eq_getElem (by rw[List.length_drop,hen] at ht;omega)];rfl) ?_
    by_cases h3:j<i
    ·right
     refine⟨.inl (by omega),?_⟩
     rw[if_pos h3,cell_heap (w:=w.drew) hc3,hc5 j (by omega)]
    ·left
     refine⟨by omega,by rw[List.length_drop,hen];omega,?_⟩
     rw[if_neg h3,List.getElem?_drop,show i+(j - (i+1))=j - 1 by omega]
     simp[show j - 1<l.length by omega]
  ·obtain rfl:i=l.length:=by omega
   refine(Any2.slices_Insert_int_end_room Tryz.lays21 b (0*ee.k) l.length c vb (0*ee2.k) 1 c2 [.int .i64 x] w (by omega) hroom hmx rfl (fun j hj=>by have:=hsp (l.length+j) (by omega);rwa[Nat.zero_mul,Nat.add_assoc]) (fun j hj=>hfz _) hxv h1v).mono ?_
   rintro en w' ⟨rfl,hw'⟩
   simp only[Nat.zero_mul,Nat.zero_add] at hw' ⊢
   have S2:SetW b w w':=by rw[hw'];exact SetW.cells b _ _ _
   obtain⟨cs2,k3,k4⟩:=S2.here _ _ _ hc3
   refine fin b c _ w' cs2 (.inr hbo) (by rw[S2.size];exact hbl) k3 rfl (by omega) hc1 hroom ?_ S2.os S2.tape S2.output (by rw[S2.size];exact Nat.le_refl _) (fun b' _ h=>S2.other b' h)
   intro j hj
   rw[hw']
   refine setCells_get (fun t ht=>by rw[cell_heap hc3,Array.getElem?_eq_getElem (by simp only[List.length_singleton] at ht;omega)];rfl) ?_
   by_cases h2:j=l.length
   ·left
    subst h2
    simp
   ·right
    refine⟨.inl (by omega),?_⟩
    rw[if_pos (by omega),cell_heap hc3,hc5 j (by omega)]
 ·by_cases hlt:i<l.length
  ·refine(Any2.slices_Insert_int_grow Tryz.lays21 b (0*ee.k) l.length c i vb (0*ee2.k) 1 c2 (l.map fun y=> .int .i64 y) [.int .i64 x] w hlt (by omega) hc2 (by omega) (by omega) hen rfl (by simpa using hcs) hxv h1c h1v).mono ?_
   rintro en w' ⟨rfl,hw'⟩
   generalize hG:grownCap w (l.length+1) c (Tryz.lays21_ren.t 3)=G at*
   have hG1:l.length+1<=G:=by rw[<-hG];exact grownCap_ge w _ _ _
   have hG2:G<=maxLen:=by rw[<-hG];exact grownCap_le_maxLen w _ _ _ (by unfold maxLen;omega)
   obtain⟨ROW,hR⟩:∃ROW,ROW=((List.take i (l.map fun y=>Value.int .i64 y)).toArray++Builtin.zeroCells (Value.int IntKind.i64 0).cells (l.length+1 - i)++Builtin.zeroCells (Value.int IntKind.i64 0).cells (G - (l.length+1))):=⟨_,rfl⟩
   rw[<-hR] at hw'
   have hRs:ROW.size=G:=by rw[hR];simp[size_zeroCells,Value.cells];omega
   have hRg:∀j,j<i->ROW[j]?=some (.int .i64 (l.getD j 0)):=by
    intro j hj
    rw[hR,Array.append_assoc,Array.getElem?_append_left (by simp;omega)]
    simp[hj,show j<l.length by omega]
   have hN:((w.alloc (.cells ROW (Tryz.lays21_ren.t 3))).drew).heap[w.heap.size]?=some (.cells ROW 3 (0,0)):=heap_new w _
   have S1:SetW w.heap.size (w.alloc (.cells ROW (Tryz.lays21_ren.t 3))).drew ((w.alloc (.cells ROW (Tryz.lays21_ren.t 3))).drew.setCells w.heap.size i [.int .i64 x]).drew:=(SetW.cells _ _ _ _).trans (SetW.drew _ _)
   have S2:SetW w.heap.size (w.alloc (.cells ROW (Tryz.lays21_ren.t 3))).drew w':=by rw[hw'];exact S1.trans (SetW.cells _ _ _ _)
   obtain⟨cs1,k1,k2⟩:=S1.here _ _ _ hN
   obtain⟨cs2,k3,k4⟩:=S2.here _ _ _ hN
   have hsz:w'.heap.size=w.heap.size+1:=by rw[S2.size];exact size_new w _
   refine fin w.heap.size G _ w' cs2 (.inl (Nat.le_refl _)) (by omega) k3 rfl (by omega) hG2 hG1 ?_ S2.os S2.tape S2.output (by omega) (fun b' hb' h=>(S2.other b' h).trans ((Grow.alloc w _).same b' hb'))
   intro j hj
   rw[hw']
   refine setCells_get (fun t ht=>by rw[cell_heap k1,Array.getElem?_eq_getElem (by rw[List.length_drop,hen] at ht;omega)];rfl) ?_
   by_cases h2:i<j
   ·left
    refine⟨by omega,by rw[List.length_drop,hen];omega,?_⟩
    rw[if_neg (by omega),if_neg (by omega),List.getElem?_drop,show i+(j - (i+1))=j - 1 by omega]
    simp[show j - 1<l.length by omega]
   ·right
    refine⟨.inl (by omega),?_⟩
    show World.cell? ((w.alloc (.cells ROW (Tryz.lays21_ren.t 3))).drew.setCells w.heap.size i [.int .i64 x]) _=_
    refine setCells_get (fun t ht=>by rw[cell_heap hN,Array.getElem?_eq_getElem (by simp only[List.length_singleton] at ht;omega)];rfl) ?_
    by_cases h3:j<i
    ·right
     refine⟨.inl h3,?_⟩
     rw[if_pos h3,cell_heap hN,hRg j h3]
    ·left
     obtain rfl:j=i:=by omega
     simp
  ·obtain rfl:i=l.length:=by omega
   refine(Any2.slices_Insert_int_end_grow Tryz.lays21 (some ⟨b,0*ee.k,none⟩) l.length c vb (0*ee2.k) 1 c2 (l.map fun y=> .int .i64 y) [.int .i64 x] w (by omega) hc2 (by omega) (by omega) hen rfl (by simp) (fun a ha j v h=>by cases ha;rw[Addr.add_lit];have:=hcs j v h;simpa using this) hxv h1v).mono ?_
   rintro en w' ⟨rfl,hw'⟩
   generalize hG:grownCap w (l.length+1) c (Tryz.lays21_ren.t 3)=G at*
   have hG1:l.length+1<=G:=by rw[<-hG];exact grownCap_ge w _ _ _
   have hG2:G<=maxLen:=by rw[<-hG];exact grownCap_le_maxLen w _ _ _ (by unfold maxLen;omega)
   have hsz:w'.heap.size=w.heap.size+1:=by rw[hw'];exact size_new w.drew _
   refine fin w.heap.size G _ w' _ (.inl (Nat.le_refl _)) (by omega) (by rw[hw'];exact heap_new w.drew _) ht3 ?_ hG2 hG1 ?_ (by rw[hw'];rfl) (by rw[hw'];rfl) (by rw[hw'];rfl) (by omega) ?_
   ·simp[size_zeroCells,Value.cells];omega
   ·intro j hj
    rw[cell_heap (by rw[hw'];exact heap_new w.drew _)]
    rw[Array.getElem?_append_left (by simp;omega)]
    by_cases h2:j=l.length
    ·subst h2;simp
    ·rw[if_pos (by omega)]
     simp[List.getElem?_append_left,show j<l.length by omega]
   ·intro b hb _
    rw[hw']
    exact(Grow.drew_alloc w _).same b hb
theorem putL_cut (l:List Int) (x:Int):putL l x=l.take (cutN l x)++[x]++l.drop (cutN l x):=by
 have h1:l.takeWhile (fun y=>decide (y<x))++l.dropWhile (fun y=>decide (y<x))=l:=List.takeWhile_append_dropWhile
 have h2:l.take (cutN l x)=l.takeWhile (fun y=>decide (y<x)):=by
  conv=>lhs;arg 2;rw[<-h1]
  unfold cutN
  rw[List.take_left]
 have h3:l.drop (cutN l x)=l.dropWhile (fun y=>decide (y<x)):=by
  conv=>lhs;arg 2;rw[<-h1]
  unfold cutN
  rw[List.drop_left]
 rw[putL,h2,h3]
theorem eput_sat (l:List Int) (x:Int) (hl:l.length<=1000) (hs:l.Pairwise (·<=·)):
  SatG Tryz.prog tab 85 [(0,some (0, .own 3 1 (ints l)))] [.slO 0 0 0 l.length,I x] [(100,some (1, .own 3 1 (ints (putL l x))))] (.slO 100 1 0 (putL l x).length):=by
 have hc:=cutN_le l x
 rw[putL_cut]
 have hi:=insert_sat l x (cutN l x) hc hl
 have hb:=search_sat l x hl hs
 generalize (decide (cutN l x<l.length)&&decide (l.getD (cutN l x) 0=x))=bb at hb
 generalize cutN l x=k at*
 generalize l.take k++[x]++l.drop k=z at*
 refine uFN Tryz.func85 Tryz.ntmps85 ?_;intro w e X hC
 refine uA ?_
 refine uR ?_;intro K hK
 refine callF (rc:= .tup [I k,B bb]) ?_ ?_ ?_ ?_ ?_ ?_;(focus (first|exact trivial|(simp only[go_sem,Nat.reduceAdd,Nat.reduceSub,Nat.reduceMul,Nat.reduceLT,Nat.reduceEqDiff,Nat.reduceBEq,Nat.reduceLeDiff,Int.reduceToNat,↓reduceIte,Int.reduceEq,Int.reduceLT,Int.reduceLE,Int.reduceAdd,Int.reduceSub,Int.reduceNeg,reduceCtorEq,]<;>trivial)));(focus (simp only[go_sem,Nat.reduceAdd,Nat.reduceSub,Nat.reduceMul,Nat.reduceLT,Nat.reduceEqDiff,Nat.reduceBEq,Nat.reduceLeDiff,Int.reduceToNat,↓reduceIte,Int.reduceEq,Int.reduceLT,Int.reduceLE,Int.reduceAdd,Int.reduceSub,Int.reduceNeg,reduceCtorEq,];exact hb));(focus (first|exact trivial|(simp only[go_sem,Nat.reduceAdd,Nat.reduceSub,Nat.reduceMul,Nat.reduceLT,Nat.reduceEqDiff,Nat.reduceBEq,Nat.reduceLeDiff,Int.reduceToNat,↓reduceIte,Int.reduceEq,Int.reduceLT,Int.reduceLE,Int.reduceAdd,Int.reduceSub,Int.reduceNeg,reduceCtorEq,]<;>trivial)));(focus (first|exact trivial|(simp only[go_sem,Nat.reduceAdd,Nat.reduceSub,Nat.reduceMul,Nat.reduceLT,Nat.reduceEqDiff,Nat.reduceBEq,Nat.reduceLeDiff,Int.reduceToNat,↓reduceIte,Int.reduceEq,Int.reduceLT,Int.reduceLE,Int.reduceAdd,Int.reduceSub,Int.reduceNeg,reduceCtorEq,]<;>trivial)));(focus (first|exact trivial|(simp only[go_sem,Nat.reduceAdd,Nat.reduceSub,Nat.reduceMul,Nat.reduceLT,Nat.reduceEqDiff,Nat.reduceBEq,Nat.reduceLeDiff,Int.reduceToNat,↓reduceIte,Int.reduceEq,Int.reduceLT,Int.reduceLE,Int.reduceAdd,Int.reduceSub,Int.reduceNeg,reduceCtorEq,]<;>trivial)));first|refine uS ?_|exact uX
 refine hK _ ?_;clear hK K
 refine uR ?_;intro K hK
 refine callE [(0,0,0,0),(1,0,116,13)] [(117,14,100,1)] false (hi) uTR uTR uTE uTE uTE uTE uTE uTE uTE uTE uTE uTE uTE uTE uTE uTE uTE ?_;refine uQS ?_
 refine hK _ ?_;clear hK K
 refine awp_ret ?_;rw[show Tryz.f85.results.toList=[.tmp 4] from rfl];(refine retG [(100,1,117,14)] uRG (by simp) (by simp) (by simp) uTG uTG uTG ?_ ?_;all_goals (first|refine uSG ?_|exact uXG|skip))
open Go.Plant
def bagOf (xs:List Nd) (p:Pl) (cs:List Int) (fs:List T3) (LV:List Int) (n:Nat):Int:=
 if isStrip (xs.getD n default).kd=true then(advL (p.slots.getD n []) (atF fs n (xs.getD n default).ln.toNat) (decide (0<=LV.getD n 0))).2 else cs.getD n 0
def st1 (xs:List Nd) (p:Pl) (cs:List Int) (fs:List T3) (LV:List Int):Nat->List (List Int)×List (List Int)×List T3
 |0=>(p.slots,p.bins,[])
 |n+1=>
  (if isStrip (xs.getD n default).kd=true then(st1 xs p cs fs LV n).1.set n (advL (p.slots.getD n []) (atF fs n (xs.getD n default).ln.toNat) (decide (0<=LV.getD n 0))).1 else(st1 xs p cs fs LV n).1,
   if isStrip (xs.getD n default).kd=true then(st1 xs p cs fs LV n).2.1 else if 0<=LV.getD n 0 then(st1 xs p cs fs LV n).2.1.set n (((st1 xs p cs fs LV n).2.1.getD n []).filter fun y=>!decide (y=cs.getD n 0)) else(st1 xs p cs fs LV n).2.1,
   if 0<=LV.getD n 0 then(st1 xs p cs fs LV n).2.2++[⟨bagOf xs p cs fs LV n,n,(xs.getD n default).ex.getD (LV.getD n 0).toNat 0⟩] else(st1 xs p cs fs LV n).2.2)
def st2 (xs:List Nd) (ms:List T3) (s:List (List Int)×List (List Int)):Nat->List (List Int)×List (List Int)
 |0=>s
 |i+1=>
  let m:=ms.getD i default
  if isStrip (xs.getD m.c.toNat default).kd=true then((st2 xs ms s i).1.set m.c.toNat (((st2 xs ms s i).1.getD m.c.toNat []).set 0 m.a),(st2 xs ms s i).2)
  else((st2 xs ms s i).1,(st2 xs ms s i).2.set m.c.toNat (putL ((st2 xs ms s i).2.getD m.c.toNat []) m.a))
def stepP (xs:List Nd) (p:Pl) (cs:List Int) (fs:List T3) (LV:List Int):Pl×List T3:=
 let s:=st1 xs p cs fs LV xs.length
 let q:=st2 xs s.2.2 (s.1,s.2.1) s.2.2.length
 (⟨q.1,q.2⟩,s.2.2.filter fun m=>!decide (m.b=m.c))
theorem getD_set2 {α:Type} {l:List α} {i n:Nat} {x d:α}:(l.set i x).getD n d=if i=n/\i<l.length then x else l.getD n d:=by
 simp only[List.getD_eq_getElem?_getD,List.getElem?_set]
 by_cases h:i=n
 ·subst h
  by_cases h2:i<l.length
  ·simp[h2]
  ·simp[h2,List.getElem?_eq_none (Nat.le_of_not_lt h2)]
 ·simp[h]
theorem putL_cons (y:Int) (l:List Int) (x:Int):putL (y::l) x=if y<x then y::putL l x else x::y::l:=by
 unfold putL
 by_cases h:y<x
 ·simp[h]
 ·simp[h]
theorem putL_mem {l:List Int} {x z:Int}:z∈putL l x↔z=x\/z∈l:=by
 have h1:z∈l↔z∈l.takeWhile (fun y=>decide (y<x))\/z∈l.dropWhile (fun y=>decide (y<x)):=by
  rw[<-List.mem_append,List.takeWhile_append_dropWhile]
 rw[h1]
 simp only[putL,List.mem_append,List.mem_singleton]
 exact⟨fun h=>by rcases h with (h|h)|h<;>simp[h],fun h=>by rcases h with h|h|h<;>simp[h]⟩
theorem putL_sorted:∀{l:List Int} {x:Int},l.Pairwise (·<=·)->(putL l x).Pairwise (·<=·)
 |[],x,_=>by simp[putL]
 |y::l,x,h=>by
  rw[putL_cons]
  obtain⟨h1,h2⟩:=List.pairwise_cons.1 h
  split
  ·refine List.pairwise_cons.2 ⟨fun z hz=>?_,putL_sorted h2⟩
   rcases putL_mem.1 hz with rfl|hz
   ·omega
   ·exact h1 z hz
  ·refine List.pairwise_cons.2 ⟨fun z hz=>?_,h⟩
   rcases List.mem_cons.1 hz with rfl|hz
   ·omega
   ·have:=h1 z hz;omega
structure StOk (xs:List Nd) (c:Nat) (s:List (List Int)×List (List Int)):Prop where
 l1:s.1.length=xs.length
 l2:s.2.length=xs.length
 r1:∀n,n<xs.length->(s.1.getD n []).length=(xs.getD n default).ln.toNat
 r2:∀n,n<xs.length->(s.2.getD n []).Pairwise (·<=·)/\(s.2.getD n []).length<=500+c
theorem st1_ok {xs:List Nd} {p:Pl} {cs:List Int} {fs:List T3} {LV:List Int} (hp:FitP xs p) (hbs:∀n,n<xs.length->(p.bins.getD n []).Pairwise (·<=·)):
  ∀i,i<=xs.length->StOk xs 0 ((st1 xs p cs fs LV i).1,(st1 xs p cs fs LV i).2.1)
 |0,_=>⟨hp.sl,hp.bl,hp.row,fun n hn=>⟨hbs n hn,hp.bin n hn⟩⟩
 |i+1,hi=>by
  obtain⟨h1,h2,h3,h4⟩:=st1_ok (cs:=cs) (fs:=fs) (LV:=LV) hp hbs i (by omega)
  rw[st1]
  generalize st1 xs p cs fs LV i=s at*
  simp only at h1 h2 h3 h4 ⊢
  refine⟨?_,?_,fun n hn=>?_,fun n hn=>?_⟩
  ·split<;>simp[h1]
  ·split<;>(try split)<;>simp[h2]
  ·try simp only
   split
   ·rw[getD_set2]
    split
    ·rename_i h
     rw[advL_len,hp.row i (by omega),h.1]
    ·exact h3 n hn
   ·exact h3 n hn
  ·try simp only
   split
   ·exact h4 n hn
   ·split
    ·rw[getD_set2]
     split
     ·obtain⟨q1,q2⟩:=h4 i (by omega)
      exact⟨q1.filter _,Nat.le_trans (List.length_filter_le _ _) q2⟩
     ·exact h4 n hn
    ·exact h4 n hn
theorem st2_ok {xs:List Nd} {ms:List T3} {s:List (List Int)×List (List Int)} (h:StOk xs 0 s):∀i,StOk xs i (st2 xs ms s i)
 |0=>h
 |i+1=>by
  obtain⟨h1,h2,h3,h4⟩:=st2_ok (ms:=ms) h i
  rw[st2]
  generalize st2 xs ms s i=q at*
  have h4':∀n,n<xs.length->(q.2.getD n []).Pairwise (·<=·)/\(q.2.getD n []).length<=500+(i+1):=fun n hn=>⟨(h4 n hn).1,by have:=(h4 n hn).2;omega⟩
  try simp only
  split
  ·refine⟨by simp[h1],h2,fun n hn=>?_,h4'⟩
   try simp only
   rw[getD_set2]
   split
   ·rename_i h5
    obtain⟨rfl,h6⟩:=h5
    rw[List.length_set];exact h3 _ hn
   ·exact h3 n hn
  ·refine⟨h1,by simp[h2],h3,fun n hn=>?_⟩
   try simp only
   rw[getD_set2]
   split
   ·rename_i h5
    obtain⟨rfl,h6⟩:=h5
    rw[putL_length]
    exact⟨putL_sorted (h4 _ hn).1,by have:=(h4 _ hn).2;omega⟩
   ·exact h4' n hn
theorem st1_len {xs:List Nd} {p:Pl} {cs:List Int} {fs:List T3} {LV:List Int}:∀i,(st1 xs p cs fs LV i).2.2.length<=i
 |0=>Nat.le_refl _
 |i+1=>by
  have ih:=st1_len (xs:=xs) (p:=p) (cs:=cs) (fs:=fs) (LV:=LV) i
  rw[st1];simp only
  split
  ·rw[List.length_append];simp only[List.length_singleton];omega
  ·omega
def ExOk (xs:List Nd):Prop:=∀n,n<xs.length->∀j,j<(xs.getD n default).ex.length->0<=(xs.getD n default).ex.getD j 0/\(xs.getD n default).ex.getD j 0<xs.length
def LvOk (xs:List Nd) (LV:List Int):Prop:=∀n,n<xs.length->0<=LV.getD n 0->LV.getD n 0<(xs.getD n default).ex.length
theorem st1_to {xs:List Nd} {p:Pl} {cs:List Int} {fs:List T3} {LV:List Int} (hx:ExOk xs) (hl:LvOk xs LV):∀i,i<=xs.length->∀m∈(st1 xs p cs fs LV i).2.2,0<=m.c/\m.c<xs.length
 |0,_,m,hm=>by cases hm
 |i+1,hi,m,hm=>by
  have ih:=st1_to (p:=p) (cs:=cs) (fs:=fs) hx hl i (by omega)
  rw[st1] at hm
  simp only at hm
  split at hm
  ·rename_i h
   rcases List.mem_append.1 hm with hm|hm
   ·exact ih m hm
   ·rw[List.mem_singleton] at hm
    subst hm
    have:=hl i (by omega) h
    exact hx i (by omega) _ (by omega)
  ·exact ih m hm
open Go.Plant
theorem estep_sat (y:Ly) (p:Pl) (ord cs:List Int) (fs:List T3) (hp:FitP y.nodes p) (hN:y.nodes.length<=11) (hc:cs.length=y.nodes.length) (hf:FitF y.nodes fs)
  (hx:∀m,m<y.nodes.length->0<=(wnts y.nodes p cs fs y.nodes.length).getD m 0->(wnts y.nodes p cs fs y.nodes.length).getD m 0<(y.nodes.getD m default).ex.length)
  (hol:ord.length<=1000) (hord:∀i,i<ord.length->0<=ord.getD i 0/\ord.getD i 0<y.nodes.length) (LV EN:List Int)
  (hLl:LV.length=y.nodes.length) (hx1:LvOk y.nodes LV) (hex:ExOk y.nodes) (hbs:∀n,n<y.nodes.length->(p.bins.getD n []).Pairwise (·<=·)) (hLV:flows y.nodes p (wnts y.nodes p cs fs y.nodes.length) ord=(LV,EN)):
  SatG Tryz.prog tab 47 [] [.ptI (plB y ord),p.av,IS cs, .sl (t3s fs) false]
   [(100,some (1, .own 22 1 (krows 3 (stepP y.nodes p cs fs LV).1.slots))),(101,some (1, .own 22 1 (krows 3 (stepP y.nodes p cs fs LV).1.bins))),(102,some (1, .own 44 3 (t3s (stepP y.nodes p cs fs LV).2)))]
   (.tup [.agg [.slO 100 1 0 (stepP y.nodes p cs fs LV).1.slots.length, .slO 101 1 0 (stepP y.nodes p cs fs LV).1.bins.length], .slO 102 1 0 (stepP y.nodes p cs fs LV).2.length]):=by
 have hflow:=flows_sat y p ord cs fs hp hN hc hf.len hx hol hord
 rw[hLV] at hflow
 have hxl:=hp.xl
 have hr1:∀i,i<p.slots.length->(p.slots.getD i []).length<=1000:=fun i hi=>by
  rw[hp.sl] at hi
  have:=hp.row i hi;have:=hp.ln i hi;omega
 have hr2:∀i,i<p.bins.length->(p.bins.getD i []).length<=1000:=fun i hi=>by
  rw[hp.bl] at hi
  have:=hp.bin i hi;omega
 have hs1l:∀i,(st1 y.nodes p cs fs LV i).1.length=p.slots.length:=fun i=>by
  induction i with
  |zero=>rfl
  |succ i ih=>rw[st1];simp only;split<;>simp[ih]
 have hs2l:∀i,(st1 y.nodes p cs fs LV i).2.1.length=p.bins.length:=fun i=>by
  induction i with
  |zero=>rfl
  |succ i ih=>rw[st1];simp only;split<;>(try split)<;>simp[ih]
 have hs3l:∀i,(st1 y.nodes p cs fs LV i).2.2.length<=i:=fun i=>by
  induction i with
  |zero=>exact Nat.le_refl _
  |succ i ih=>
   rw[st1];simp only
   split
   ·rw[List.length_append];simp only[List.length_singleton];omega
   ·omega
 have hs2b:∀i n,((st1 y.nodes p cs fs LV i).2.1.getD n []).length<=500:=fun i=>by
  induction i with
  |zero=>
   intro n
   by_cases h:n<p.bins.length
   ·exact hp.bin n (by rw[<-hp.bl];exact h)
   ·show(p.bins.getD n []).length<=500
    rw[List.getD_eq_getElem?_getD,List.getElem?_eq_none (by omega)]
    simp
  |succ i ih=>
   intro n
   rw[st1]
   simp only
   split
   ·exact ih n
   ·split
    ·generalize st1 y.nodes p cs fs LV i=s at ih
     have h1:=ih n
     have h2:=ih i
     rw[getD_set2]
     split
     ·exact Nat.le_trans (List.length_filter_le _ _) h2
     ·exact h1
    ·exact ih n
 refine uFN Tryz.func47 Tryz.ntmps47 ?_;intro w e X hC
 refine uA ?_
 refine uR ?_;intro K hK
 refine callP uTS (hflow) uTS uTS uTS ?_;refine uS ?_
 refine hK _ ?_;clear hK K
 refine uR ?_;intro K hK
 have z:=@Bool.or_true;refine callE [] [(125,12,100,1),(401,12,101,1)] false ((clone69_sat p (by rw[hp.sl];omega) (by rw[hp.bl];omega) hr1 hr2)) (uTR1 z) (uTR1 z) (uTE1 z) (uTE1 z) (uTE1 z) (uTE1 z) (uTE1 z) (uTE1 z) (uTE1 z) (uTE1 z) (uTE1 z) (uTE1 z) (uTE1 z) (uTE1 z) (uTE1 z) (uTE1 z) (uTE1 z) ?_;refine uQS1 z ?_;clear z
 refine hK _ ?_;clear hK K
 repeat refine uA ?_
 refine uW ?_
 refine awp_loopW (fun i:Nat×Nat×Nat=>⟨[(0, .ptI (plB y ord)),(2,IS cs),(3, .sl (t3s fs) false),(5, .ptO 105 1 0 0 0),(8, .ptO 108 2 0 0 0),(10, .ptO 110 9 0 0 0),(11, .ptO 111 13 0 0 0),(12, .slO 112 i.2.2 0 (st1 y.nodes p cs fs LV i.2.1).2.2.length),(30, .sl (nds y.nodes) false),(31,I y.nodes.length),(32,I i.2.1)],
  (112,some (i.2.2, .own 44 3 (t3s (st1 y.nodes p cs fs LV i.2.1).2.2)))::(111,some (13, .box [.slO 125 12 0 p.slots.length, .slO 401 12 0 p.bins.length]))::(125,some (12, .own 22 1 (krows 3 (st1 y.nodes p cs fs LV i.2.1).1)))::(401,some (12, .own 22 1 (krows 3 (st1 y.nodes p cs fs LV i.2.1).2.1)))::(110,some (9, .box [IS LV,IS EN]))::(108,some (2, .box [.sl [] true, .sl [] true]))::(105,some (1, .box [RS p.slots,RS p.bins]))::[],i.1⟩)
  (fun i=>i.2.1<=y.nodes.length) (fun i=>y.nodes.length - i.2.1) (_,0,_) (Nat.zero_le _) (.of (Nat.le_refl _) (by repeat first|exact HOk.nil|refine uHN ?_|(refine HOk.cons ?_ ?_;(focus (simp only[go_sem,Nat.reduceAdd,Nat.reduceSub,Nat.reduceMul,Nat.reduceLT,Nat.reduceEqDiff,Nat.reduceBEq,Nat.reduceLeDiff,Int.reduceToNat,↓reduceIte,Int.reduceEq,Int.reduceLT,Int.reduceLE,Int.reduceAdd,Int.reduceSub,Int.reduceNeg,reduceCtorEq,st1];done)))) (by repeat first|exact WOk.nil|refine uWN ?_|(refine WOk.cons ?_ ?_;(focus (simp only[go_sem,Nat.reduceAdd,Nat.reduceSub,Nat.reduceMul,Nat.reduceLT,Nat.reduceEqDiff,Nat.reduceBEq,Nat.reduceLeDiff,Int.reduceToNat,↓reduceIte,Int.reduceEq,Int.reduceLT,Int.reduceLE,Int.reduceAdd,Int.reduceSub,Int.reduceNeg,reduceCtorEq,st1];done))))) ?_
 ·rintro⟨ck,i,gm⟩ hi
  simp only at hi
  have hL1:=hs1l i
  have hL2:=hs2l i
  have hB2:=hs2b i i
  have hL3:=hs3l i
  have hex1:st1 y.nodes p cs fs LV (i+1)=_:=st1.eq_2 y.nodes p cs fs LV i
  have hto:=st1_to (p:=p) (cs:=cs) (fs:=fs) hex hx1 i hi
  have hok:=st1_ok (cs:=cs) (fs:=fs) (LV:=LV) hp hbs i hi
  generalize hsE:st1 y.nodes p cs fs LV i=s at*
  obtain⟨s1,s2,s3⟩:=s
  simp only at hL1 hL2 hB2 hL3 hex1
  repeat refine uA ?_
  refine uW ?_;refine condP _ rfl (fun h=>?_) (fun h=>?_)
  ·have hlt:i<y.nodes.length:=by omega
   have hic:i<cs.length:=by omega
   have hiL:i<LV.length:=by omega
   have hadv:=fun h0=>eadvance_sat y p ord fs i (decide (0<=LV.getD i 0)) hp hf hlt h0
   have hAl:(advL (p.slots.getD i []) (atF fs i (y.nodes.getD i default).ln.toNat) (decide (0<=LV.getD i 0))).1.length=(p.slots.getD i []).length:=advL_len _ _ _
   have hrow:=hp.row i hlt
   have hps:=hp.sl
   have hpb:=hp.bl
   have hst:isStrip (y.nodes.getD i default).kd=true->1<=(y.nodes.getD i default).ln:=hp.st i hlt
   have hln:=hp.ln i hlt
   have his:i<s1.length:=by rw[hL1,hp.sl];exact hlt
   have hib:i<s2.length:=by rw[hL2,hp.bl];exact hlt
   generalize e2:y.nodes.getD i default=x at*
   repeat refine uA1 (uI (nds_getD hlt) @e2) ?_
   refine uD1 (uI (ints_getD hic) (ints_getD hiL)) ?_;intro K hK
   refine uH ?_
   refine hK _ ?_;clear hK K
   have hbg:bagOf y.nodes p cs fs LV i=if isStrip x.kd=true then(advL (p.slots.getD i []) (atF fs i x.ln.toNat) (decide (0<=LV.getD i 0))).2 else cs.getD i 0:=by rw[bagOf,e2]
   generalize bagOf y.nodes p cs fs LV i=bg at*
   generalize advL (p.slots.getD i []) (atF fs i x.ln.toNat) (decide (0<=LV.getD i 0))=A at*
   generalize hn1:(if isStrip x.kd=true then s1.set i A.1 else s1)=n1 at*
   generalize hn2:(if isStrip x.kd=true then s2 else if 0<=LV.getD i 0 then s2.set i ((s2.getD i []).filter fun y=>!decide (y=cs.getD i 0)) else s2)=n2 at*
   refine awp_seq ?_
   refine awp_merge (fun q:Nat=>⟨[(0, .ptI (plB y ord)),(2,IS cs),(3, .sl (t3s fs) false),(5, .ptO 105 1 0 0 0),(8, .ptO 108 2 0 0 0),(10, .ptO 110 9 0 0 0),(11, .ptO 111 13 0 0 0),(12, .slO 112 gm 0 s3.length),(13,I i),(14, .ptO 114 (ck+4) 0 0 0),(15, .ptO 115 (ck+17) 0 0 0),(16,B (decide (0<=LV.getD i 0))),(30, .sl (nds y.nodes) false),(31,I y.nodes.length),(32,I i)],(115,some (ck+17, .box [I bg]))::(114,some (ck+4, .box [S x.nm,I x.kd,I x.ln,I x.zn,IS x.ex]))::(112,some (gm, .own 44 3 (t3s s3)))::(111,some (13, .box [.slO 125 12 0 p.slots.length, .slO 401 12 0 p.bins.length]))::(125,some (12, .own 22 1 (krows 3 n1)))::(401,some (12, .own 22 1 (krows 3 n2)))::(110,some (9, .box [IS LV,IS EN]))::(108,some (2, .box [.sl [] true, .sl [] true]))::(105,some (1, .box [RS p.slots,RS p.bins]))::[],q⟩) (fun _=>True) ?_ ?_
   ·refine uR ?_;intro K hK
    refine callF uTS ((fstrip_sat x.kd)) uTS uTS uTS ?_;refine uS ?_
    refine hK _ ?_;clear hK K
    cases c1:isStrip x.kd with
    |true=>
     rw[c1] at hn1 hn2 hbg
     simp only[if_true] at hn1 hn2 hbg
     refine uT ?_
     have hr0:0<(p.slots.getD i []).length:=by have:=hst c1;omega
     have hadv':=hadv hr0
     generalize (p.slots.getD i []).length=rl at*
     refine uD ?_;intro K hK
     refine callE [] [(159,ck+31,100,1)] false (hadv') uTR uTR uTE uTE uTE uTE uTE uTE uTE uTE uTE uTE uTE uTE uTE uTE uTE ?_;refine uQS ?_
     refine uH ?_
     refine hK _ ?_;clear hK K
     subst hn2 hbg
     refine⟨_,trivial, .of (Nat.le_refl _) (uHF1 @hn1) uWF⟩
    |false=>
     rw[c1] at hn1 hn2 hbg
     simp only[Bool.false_eq_true,if_false] at hn1 hn2 hbg
     subst hn1 hbg
     refine uF ?_
     refine uA ?_
     refine uW ?_;refine condP _ rfl (fun c2=>?_) (fun c2=>?_)
     ·rw[if_pos c2] at hn2
      (repeat first|refine awp_seq ?_|refine awp_skip ?_|refine awp_block ?_);refine awp_region_drawR hC (by kernel_rfl) (by kernel_rfl) rfl fun K hK=>?_;simp only[go_sem,Nat.reduceAdd,Nat.reduceSub,Nat.reduceMul,Nat.reduceLT,Nat.reduceEqDiff,Nat.reduceBEq,Nat.reduceLeDiff,Int.reduceToNat,↓reduceIte,Int.reduceEq,Int.reduceLT,Int.reduceLE,Int.reduceAdd,Int.reduceSub,Int.reduceNeg,reduceCtorEq,krows_getD hib,hL2,hpb]
      refine⟨by omega,by omega,?_⟩
      refine callE [(0,0,171,ck+31)] [(173,ck+33,100,1)] true ((delI_sat (s2.getD i []) 84 [I (cs.getD i 0)] (fun y=>decide (y=cs.getD i 0)) (by omega) (fun y _=>step1_sat (cs.getD i 0) y))) uTR uTR uTE uTE uTE uTE uTE uTE uTE uTE uTE uTE uTE uTE uTE uTE uTE ?_;refine uQS ?_
      refine uH ?_
      refine hK _ ?_;clear hK K
      refine⟨_,trivial, .of (Nat.le_refl _) (uHF1 (uI @hn2 (uI @hpb @List.set_set.{0}))) uWF⟩
     ·rw[if_neg c2] at hn2
      subst hn2
      refine uW ?_
      refine⟨_,trivial,uKF⟩
   ·rintro ck2 -
    have hxe:=hx1 i hlt
    rw[e2] at hxe
    repeat refine uA ?_
    refine uW ?_;refine condP _ rfl (fun c3=>?_) (fun c3=>?_)
    ·rw[if_pos c3] at hex1
     obtain⟨k,hk⟩:∃k:Nat,k=(LV.getD i 0).toNat:=⟨_,rfl⟩
     have hkk:LV.getD i 0=(k:Int):=by omega
     rw[<-hk] at hex1
     have hkx:=hxe c3
     rw[hkk] at hkx
     have hkx':k<x.ex.length:=by omega
     refine uD1 (uI (ints_getD hiL) (uI @hkk (ints_getD hkx'))) ?_;intro K hK
     refine uH ?_
     refine hK _ ?_;clear hK K
     repeat refine uA ?_
     refine⟨(_,i+1,gm),by simp only;omega,by simp only;omega, .of (Nat.le_refl _) (uHF1 @hex1) (uWF1 (uI @hex1 @List.length_singleton.{0}))⟩
    ·rw[if_neg c3] at hex1
     repeat refine uA ?_
     refine⟨(_,i+1,gm),by simp only;omega,by simp only;omega, .of (Nat.le_refl _) (uHF1 @hex1) (uWF1 @hex1)⟩
  ·refine awp_exit ?_
   obtain rfl:i=y.nodes.length:=by omega
   have hok2:=st2_ok (ms:=s3) hok
   have hps:=hp.sl
   have hpb:=hp.bl
   clear hok hL1 hL2 hB2 hex1
   repeat refine uA ?_
   refine uW ?_
   refine awp_loopW (fun i:Nat×Nat=>⟨[(0, .ptI (plB y ord)),(2,IS cs),(3, .sl (t3s fs) false),(5, .ptO 105 1 0 0 0),(8, .ptO 108 2 0 0 0),(10, .ptO 110 9 0 0 0),(11, .ptO 111 13 0 0 0),(12, .slO 112 gm 0 s3.length),(92, .slO 112 gm 0 s3.length),(93,I s3.length),(94,I i.2)],
    (112,some (gm, .own 44 3 (t3s s3)))::(111,some (13, .box [.slO 125 12 0 p.slots.length, .slO 401 12 0 p.bins.length]))::(125,some (12, .own 22 1 (krows 3 (st2 y.nodes s3 (s1,s2) i.2).1)))::(401,some (12, .own 22 1 (krows 3 (st2 y.nodes s3 (s1,s2) i.2).2)))::(110,some (9, .box [IS LV,IS EN]))::(108,some (2, .box [.sl [] true, .sl [] true]))::(105,some (1, .box [RS p.slots,RS p.bins]))::[],i.1⟩)
    (fun i=>i.2<=s3.length) (fun i=>s3.length - i.2) (_,0) (Nat.zero_le _) (.of (Nat.le_refl _) (by repeat first|exact HOk.nil|refine uHN ?_|(refine HOk.cons ?_ ?_;(focus (simp only[go_sem,Nat.reduceAdd,Nat.reduceSub,Nat.reduceMul,Nat.reduceLT,Nat.reduceEqDiff,Nat.reduceBEq,Nat.reduceLeDiff,Int.reduceToNat,↓reduceIte,Int.reduceEq,Int.reduceLT,Int.reduceLE,Int.reduceAdd,Int.reduceSub,Int.reduceNeg,reduceCtorEq,st2];done)))) (by repeat first|exact WOk.nil|refine uWN ?_|(refine WOk.cons ?_ ?_;(focus (simp only[go_sem,Nat.reduceAdd,Nat.reduceSub,Nat.reduceMul,Nat.reduceLT,Nat.reduceEqDiff,Nat.reduceBEq,Nat.reduceLeDiff,Int.reduceToNat,↓reduceIte,Int.reduceEq,Int.reduceLT,Int.reduceLE,Int.reduceAdd,Int.reduceSub,Int.reduceNeg,reduceCtorEq];done))))) ?_
   rintro⟨ck,i⟩ hi
   simp only at hi
   have hoki:=hok2 i
   have hE:st2 y.nodes s3 (s1,s2) (i+1)=_:=st2.eq_2 y.nodes s3 (s1,s2) i
   generalize hqE:st2 y.nodes s3 (s1,s2) i=q at*
   obtain⟨q1,q2⟩:=q
   obtain⟨hq1,hq2,hq3,hq4⟩:=hoki
   simp only at hq1 hq2 hq3 hq4 hE
   repeat refine uA ?_
   refine uW ?_;refine condP _ rfl (fun h1=>?_) (fun h1=>?_)
   ·have hlt:i<s3.length:=by omega
    obtain⟨hm0,hm1⟩:=hto (s3.getD i default) (mem_getD hlt)
    generalize e3:s3.getD i default=m at*
    obtain⟨k,hk⟩:∃k:Nat,k=m.c.toNat:=⟨_,rfl⟩
    have hmk:m.c=(k:Int):=by omega
    rw[<-hk] at hE
    have hkn:k<y.nodes.length:=by omega
    have hkq1:k<q1.length:=by omega
    have hkq2:k<q2.length:=by omega
    have hr1:=hq3 k hkn
    obtain⟨hr2,hr3⟩:=hq4 k hkn
    have hst:isStrip (y.nodes.getD k default).kd=true->1<=(y.nodes.getD k default).ln:=hp.st k hkn
    generalize e4:y.nodes.getD k default=x at*
    refine uA1 (uI (t3s_getD hlt) @e3) ?_
    refine uE1 (uI @hmk (uI (nds_getD hkn) @e4)) ?_;intro K hK
    refine⟨by omega,?_⟩
    refine callF uTS ((fstrip_sat x.kd)) uTS uTS uTS ?_;refine uS ?_
    refine uH ?_
    refine hK _ ?_;clear hK K
    cases c1:isStrip x.kd with
    |true=>
     have:=hst c1
     have hr0:0<(q1.getD k []).length:=by omega
     rw[c1] at hE
     simp only[if_true] at hE
     refine uT ?_
     (repeat first|refine awp_seq ?_|refine awp_skip ?_|refine awp_block ?_);refine awp_region_drawR hC (by kernel_rfl) (by kernel_rfl) rfl fun K hK=>?_;simp only[go_sem,Nat.reduceAdd,Nat.reduceSub,Nat.reduceMul,Nat.reduceLT,Nat.reduceEqDiff,Nat.reduceBEq,Nat.reduceLeDiff,Int.reduceToNat,↓reduceIte,Int.reduceEq,Int.reduceLT,Int.reduceLE,Int.reduceAdd,Int.reduceSub,Int.reduceNeg,reduceCtorEq,krows_getD hkq1,hq1,hps,hmk]
     refine uH ?_
     refine hK _ ?_;clear hK K
     have hsk:∀v,((krows 3 q1).set k v).getD k .bad=v:=fun v=>by
      rw[getD_set2,if_pos ⟨rfl,by rw[krows_length];exact hkq1⟩]
     have hlk:((q1.getD k []).set 0 m.a).length=(q1.getD k []).length:=List.length_set
     refine awp_attach (id:=125) (gi:=12) (t:=22) (k:=1) (i:=k) (rid:=214) (rg:=ck+21) (n:=(q1.getD k []).length) rfl (by rw[List.length_set,krows_length];exact hkq1) (hsk _) (by decide) ?_ ?_
     ·simp only[go_sem,Nat.reduceAdd,Nat.reduceSub,Nat.reduceMul,Nat.reduceLT,Nat.reduceEqDiff,Nat.reduceBEq,Nat.reduceLeDiff,Int.reduceToNat,↓reduceIte,Int.reduceEq,Int.reduceLT,Int.reduceLE,Int.reduceAdd,Int.reduceSub,Int.reduceNeg,reduceCtorEq,attP,hlk]
     ·simp only[go_sem,Nat.reduceAdd,Nat.reduceSub,Nat.reduceMul,Nat.reduceLT,Nat.reduceEqDiff,Nat.reduceBEq,Nat.reduceLeDiff,Int.reduceToNat,↓reduceIte,Int.reduceEq,Int.reduceLT,Int.reduceLE,Int.reduceAdd,Int.reduceSub,Int.reduceNeg,reduceCtorEq,att,List.set_set]
      repeat refine uA ?_
      refine⟨(_,i+1),by simp only;omega,by simp only;omega, .of (Nat.le_refl _) (uHF1 (uI @hE @hps)) uWF⟩
    |false=>
     rw[c1] at hE
     simp only[Bool.false_eq_true,if_false] at hE
     refine uF ?_
     (repeat first|refine awp_seq ?_|refine awp_skip ?_|refine awp_block ?_);refine awp_region_drawR hC (by kernel_rfl) (by kernel_rfl) rfl fun K hK=>?_;simp only[go_sem,Nat.reduceAdd,Nat.reduceSub,Nat.reduceMul,Nat.reduceLT,Nat.reduceEqDiff,Nat.reduceBEq,Nat.reduceLeDiff,Int.reduceToNat,↓reduceIte,Int.reduceEq,Int.reduceLT,Int.reduceLE,Int.reduceAdd,Int.reduceSub,Int.reduceNeg,reduceCtorEq,krows_getD hkq2,hq2,hpb,hmk]
     refine⟨by omega,by omega,?_⟩
     refine callE [(0,0,227,ck+25)] [(230,ck+28,100,1)] false ((eput_sat (q2.getD k []) m.a (by omega) hr2)) uTR uTR uTE uTE uTE uTE uTE uTE uTE uTE uTE uTE uTE uTE uTE uTE uTE ?_;refine uQS ?_
     refine uH ?_
     refine hK _ ?_;clear hK K
     repeat refine uA ?_
     refine⟨(_,i+1),by simp only;omega,by simp only;omega, .of (Nat.le_refl _) (uHF1 (uI @hE (uI @hpb @List.set_set.{0}))) uWF⟩
   ·refine awp_exit ?_
    obtain rfl:i=s3.length:=by omega
    have hst:stepP y.nodes p cs fs LV=(⟨q1,q2⟩,s3.filter fun m=>!decide (m.b=m.c)):=by
     unfold stepP;rw[hsE];simp only[hqE]
    rw[hst]
    simp only
    refine uD ?_;intro K hK
    refine callE [(0,0,112,gm)] [(235,ck+3,100,1)] false ((delP_sat s3 87 (fun m=>decide (m.b=m.c)) (by omega) (fun m _=>step2_sat m))) uTR uTR uTE uTE uTE uTE uTE uTE uTE uTE uTE uTE uTE uTE uTE uTE uTE ?_;refine uQS ?_
    refine uH ?_
    refine hK _ ?_;clear hK K
    have hA:p.slots.length=q1.length:=by omega
    have hB:p.bins.length=q2.length:=by omega
    rw[hA,hB]
    refine awp_ret ?_;rw[show Tryz.f47.results.toList=[.cell 8 34, .tmp 9] from rfl];(refine retG [(100,1,125,12),(101,1,401,12),(102,1,235,ck+3)] uRG (by simp) (by simp) (by simp) uTG uTG uTG ?_ ?_;all_goals (first|refine uSG ?_|exact uXG|skip))
theorem by_sat (x y:T3) (h:-9223372036854775808<=x.b - y.b/\x.b - y.b<=9223372036854775807):SatG Tryz.prog tab 49 [] [x.av,y.av] [] (I (x.b - y.b)):=by
 refine uFN Tryz.func49 Tryz.ntmps49 ?_;intro w e X hC
 repeat refine uA ?_
 (refine awp_ret (ret1 uRT ?_);try rfl)
def Asc (l:List T3):Prop:=∀i,i+1<l.length->(l.getD i default).b<=(l.getD (i+1) default).b
def Sml (l:List T3):Prop:=∀i,i<l.length->0<=(l.getD i default).b/\(l.getD i default).b<=1000
theorem isort_sat (l:List T3) (hl:l.length<=12) (ha:Asc l) (hs:Sml l):
  SatG Tryz.prog tab 126 [(0,some (0, .own 44 3 (t3s l)))] [.slO 0 0 0 l.length,I 0,I l.length, .fn 49 []] [(0,some (0, .own 44 3 (t3s l)))] (.tup []):=by
 refine uFN Tryz.func126 Tryz.ntmps126 ?_;intro w e X hC
 repeat refine uA ?_
 refine uW ?_
 refine awp_loopW (fun i:Nat×Nat=>⟨[(0, .slO 0 0 0 l.length),(1,I 0),(2,I l.length),(3, .fn 49 []),(8,I (i.2+1:Nat))],(0,some (0, .own 44 3 (t3s l)))::[],i.1⟩) (fun i=>True) (fun i=>l.length - i.2) (_,0) trivial (uKF) ?_
 rintro⟨ck,i⟩ -
 repeat refine uA ?_
 refine uW ?_;refine condP _ rfl (fun h=>?_) (fun h=>?_)
 ·have h1:i+1<l.length:=by omega
  repeat refine uA ?_
  refine uW ?_
  refine awp_loopW (fun k:Nat=>⟨[(0, .slO 0 0 0 l.length),(1,I 0),(2,I l.length),(3, .fn 49 []),(8,I (i+1:Nat)),(9,I (i+1:Nat))],(0,some (0, .own 44 3 (t3s l)))::[],k⟩) (fun _=>True) (fun _=>0) _ trivial (uKF) ?_
  rintro k -
  have d1:decide (0<((i+1:Nat):Int))=true:=decide_eq_true (by omega)
  have hb:=ha i h1
  have hs1:=hs i (by omega)
  have hs2:=hs (i+1) h1
  have hi0:i<l.length:=by omega
  have hsat:=by_sat (l.getD (i+1) default) (l.getD i default) (by omega)
  have d2:decide ((l.getD (i+1) default).b - (l.getD i default).b<0)=false:=decide_eq_false (by omega)
  have e1:((i+1:Nat):Int) - 1=(i:Int):=by omega
  refine uE1 (uI @d1 (uI @e1 (uI (t3s_getD h1) (t3s_getD hi0)))) ?_;intro K hK
  refine⟨by omega,by omega,by omega,by omega,by omega,?_⟩
  refine callF uTS (hsat) uTS uTS uTS ?_;refine uS ?_
  refine uH ?_
  refine hK _ ?_;clear hK K
  refine uW ?_;refine condP _ rfl (fun c1=>?_) (fun c1=>?_)
  ·omega
  ·refine awp_exit ?_
   repeat refine uA ?_
   refine⟨(_,i+1),trivial,by simp only;omega,uKF⟩
 ·refine awp_exit ?_
  show ∃σ D,RetG _ Tryz.f126.results.toList σ D _ _ _;rw[show Tryz.f126.results.toList=[] from rfl];(refine retG [(0,0,0,0)] uRG (by simp) (by simp) (by simp) uTG uTG uTG ?_ ?_;all_goals (first|refine uSG ?_|exact uXG|skip))
theorem len64_sat (n:Nat) (h:n<13):SatG Tryz.prog tab 135 [] [U n] [] (I ([0,1,2,2,3,3,3,3,4,4,4,4,4].getD n 0)):=by
 have d1:decide ((4294967296:Int)<=n)=false:=decide_eq_false (by omega)
 have d2:decide ((65536:Int)<=n)=false:=decide_eq_false (by omega)
 have d3:decide ((256:Int)<=n)=false:=decide_eq_false (by omega)
 refine uFN Tryz.func135 Tryz.ntmps135 ?_;intro w e X hC
 refine uA ?_
 refine uR1 @d1 ?_;intro K hK
 refine hK _ ?_;clear hK K
 refine uF ?_
 refine uR1 @d2 ?_;intro K hK
 refine hK _ ?_;clear hK K
 refine uF ?_
 refine uR1 @d3 ?_;intro K hK
 refine hK _ ?_;clear hK K
 refine uF ?_
 have hc:n=0\/n=1\/n=2\/n=3\/n=4\/n=5\/n=6\/n=7\/n=8\/n=9\/n=10\/n=11\/n=12:=by omega
 refine uR ?_;intro K hK
 refine⟨?_,?_,?_⟩
 ·rcases hc with rfl|rfl|rfl|rfl|rfl|rfl|rfl|rfl|rfl|rfl|rfl|rfl|rfl<;>exact of_decide_eq_true (by kernel_rfl)
 ·rcases hc with rfl|rfl|rfl|rfl|rfl|rfl|rfl|rfl|rfl|rfl|rfl|rfl|rfl<;>exact of_decide_eq_true (by kernel_rfl)
 ·refine hK _ ?_;clear hK K
  (refine awp_ret (ret1 uRT ?_);try rfl)
  rcases hc with rfl|rfl|rfl|rfl|rfl|rfl|rfl|rfl|rfl|rfl|rfl|rfl|rfl<;>kernel_rfl
theorem len_sat (n:Nat) (h:n<13):SatG Tryz.prog tab 89 [] [U n] [] (I ([0,1,2,2,3,3,3,3,4,4,4,4,4].getD n 0)):=by
 refine uFN Tryz.func89 Tryz.ntmps89 ?_;intro w e X hC
 refine uA ?_
 refine uF ?_
 refine uR ?_;intro K hK
 refine callF uTS ((len64_sat n h)) uTS uTS uTS ?_;refine uS ?_
 refine hK _ ?_;clear hK K
 (refine awp_ret (ret1 uRT ?_);try rfl)
theorem pdq_sat (l:List T3) (lim:Int) (hl:l.length<=12) (ha:Asc l) (hs:Sml l):
  SatG Tryz.prog tab 88 [(0,some (0, .own 44 3 (t3s l)))] [.slO 0 0 0 l.length,I 0,I l.length,I lim, .fn 49 []] [(0,some (0, .own 44 3 (t3s l)))] (.tup []):=by
 refine uFN Tryz.func88 Tryz.ntmps88 ?_;intro w e X hC
 repeat refine uA ?_
 refine uW ?_
 refine awp_loopW (fun k:Nat=>⟨[(0, .slO 0 0 0 l.length),(1,I 0),(2,I l.length),(4, .fn 49 [])],(0,some (0, .own 44 3 (t3s l)))::[],k⟩) (fun _=>True) (fun _=>0) _ trivial (uKF) ?_
 rintro k -
 have e1:(l.length:Int) - 0=l.length:=by omega
 repeat refine uA1 @e1 ?_
 refine uW ?_;refine condP _ rfl (fun h=>?_) (fun h=>?_)
 ·refine uR ?_;intro K hK
  refine callE [(0,0,0,0)] [(0,0,0,0)] true ((isort_sat l hl ha hs)) uTR uTR uTE uTE uTE uTE uTE uTE uTE uTE uTE uTE uTE uTE uTE uTE uTE ?_;refine uQS ?_
  refine hK _ ?_;clear hK K
  refine uW ?_
  refine awp_ret ?_;rw[show Tryz.f88.results.toList=[] from rfl];(refine retG [(0,0,0,0)] uRG (by simp) (by simp) (by simp) uTG uTG uTG ?_ ?_;all_goals (first|refine uSG ?_|exact uXG|skip))
 ·omega
theorem sortP_sat (l:List T3) (hl:l.length<=12) (ha:Asc l) (hs:Sml l):
  SatG Tryz.prog tab 48 [(0,some (0, .own 44 3 (t3s l)))] [.slO 0 0 0 l.length, .fn 49 []] [(0,some (0, .own 44 3 (t3s l)))] (.tup []):=by
 have e1:=u64_nat (a:=l.length) (by omega)
 have hlen:=len_sat l.length (by omega)
 generalize [0,1,2,2,3,3,3,3,4,4,4,4,4].getD l.length (0:Int)=lim at hlen
 refine uFN Tryz.func48 Tryz.ntmps48 ?_;intro w e X hC
 refine uA ?_
 refine uR1 @e1 ?_;intro K hK
 refine callF uTS (hlen) uTS uTS uTS ?_;refine uS ?_
 refine callE [(0,0,0,0)] [(0,0,0,0)] true ((pdq_sat l lim hl ha hs)) uTR uTR uTE uTE uTE uTE uTE uTE uTE uTE uTE uTE uTE uTE uTE uTE uTE ?_;refine uQS ?_
 refine hK _ ?_;clear hK K
 show ∃σ D,RetG _ Tryz.f48.results.toList σ D _ _ _;rw[show Tryz.f48.results.toList=[] from rfl];(refine retG [(0,0,0,0)] uRG (by simp) (by simp) (by simp) uTG uTG uTG ?_ ?_;all_goals (first|refine uSG ?_|exact uXG|skip))
abbrev U8 (c:Nat):AV:= .lit (.int .u8 (c:Int))
def letB (c:Nat):Bool:=decide ((65:Int)<=c)&&decide ((c:Int)<=90)
def digB (c:Nat):Bool:=decide ((48:Int)<=c)&&decide ((c:Int)<=57)
def bs (s:ByteArray):List Nat:=s.data.toList.map UInt8.toNat
def nameOk (s:ByteArray):Bool:=decide (1<=(bs s).length)&&(decide ((bs s).length<=12)&&(letB ((bs s).getD 0 0)&&(bs s).all fun c=>letB c||digB c))
theorem bs_len (s:ByteArray):(bs s).length=s.data.toList.length:=by simp[bs]
theorem bs_getD (s:ByteArray) (i:Nat):(s.data.toList.getD i 0).toNat=(bs s).getD i 0:=by
 unfold bs
 by_cases h:i<s.data.toList.length
 ·simp only[List.getD_eq_getElem?_getD,List.getElem?_map,List.getElem?_eq_getElem h];rfl
 ·simp only[List.getD_eq_getElem?_getD,List.getElem?_map,List.getElem?_eq_none (Nat.le_of_not_lt h)];rfl
theorem letter_sat (c:Nat):SatG Tryz.prog tab 172 [] [U8 c] [] (B (letB c)):=by
 refine uFN Tryz.func172 Tryz.ntmps172 ?_;intro w e X hC
 cases d1:decide ((65:Int)<=c) with
 |true=>
  repeat refine uA1 @d1 ?_
  (refine awp_ret (ret1 uRT ?_);try rfl)
  simp only[go_sem,Nat.reduceAdd,Nat.reduceSub,Nat.reduceMul,Nat.reduceLT,Nat.reduceEqDiff,Nat.reduceBEq,Nat.reduceLeDiff,Int.reduceToNat,↓reduceIte,Int.reduceEq,Int.reduceLT,Int.reduceLE,Int.reduceAdd,Int.reduceSub,Int.reduceNeg,reduceCtorEq,letB,d1,Bool.true_and]
 |false=>
  repeat refine uA1 @d1 ?_
  (refine awp_ret (ret1 uRT ?_);try rfl)
  simp only[go_sem,Nat.reduceAdd,Nat.reduceSub,Nat.reduceMul,Nat.reduceLT,Nat.reduceEqDiff,Nat.reduceBEq,Nat.reduceLeDiff,Int.reduceToNat,↓reduceIte,Int.reduceEq,Int.reduceLT,Int.reduceLE,Int.reduceAdd,Int.reduceSub,Int.reduceNeg,reduceCtorEq,letB,d1,Bool.false_and]
theorem digit_sat (c:Nat):SatG Tryz.prog tab 175 [] [U8 c] [] (B (digB c)):=by
 refine uFN Tryz.func175 Tryz.ntmps175 ?_;intro w e X hC
 cases d1:decide ((48:Int)<=c) with
 |true=>
  repeat refine uA1 @d1 ?_
  (refine awp_ret (ret1 uRT ?_);try rfl)
  simp only[go_sem,Nat.reduceAdd,Nat.reduceSub,Nat.reduceMul,Nat.reduceLT,Nat.reduceEqDiff,Nat.reduceBEq,Nat.reduceLeDiff,Int.reduceToNat,↓reduceIte,Int.reduceEq,Int.reduceLT,Int.reduceLE,Int.reduceAdd,Int.reduceSub,Int.reduceNeg,reduceCtorEq,digB,d1,Bool.true_and]
 |false=>
  repeat refine uA1 @d1 ?_
  (refine awp_ret (ret1 uRT ?_);try rfl)
  simp only[go_sem,Nat.reduceAdd,Nat.reduceSub,Nat.reduceMul,Nat.reduceLT,Nat.reduceEqDiff,Nat.reduceBEq,Nat.reduceLeDiff,Int.reduceToNat,↓reduceIte,Int.reduceEq,Int.reduceLT,Int.reduceLE,Int.reduceAdd,Int.reduceSub,Int.reduceNeg,reduceCtorEq,digB,d1,Bool.false_and]
theorem letter2_sat (c:Nat):SatG Tryz.prog tab 156 [] [U8 c] [] (B (letB c)):=by
 refine uFN Tryz.func156 Tryz.ntmps156 ?_;intro w e X hC
 cases d1:decide ((65:Int)<=c) with
 |true=>
  repeat refine uA1 @d1 ?_
  (refine awp_ret (ret1 uRT ?_);try rfl)
  simp only[go_sem,Nat.reduceAdd,Nat.reduceSub,Nat.reduceMul,Nat.reduceLT,Nat.reduceEqDiff,Nat.reduceBEq,Nat.reduceLeDiff,Int.reduceToNat,↓reduceIte,Int.reduceEq,Int.reduceLT,Int.reduceLE,Int.reduceAdd,Int.reduceSub,Int.reduceNeg,reduceCtorEq,letB,d1,Bool.true_and]
 |false=>
  repeat refine uA1 @d1 ?_
  (refine awp_ret (ret1 uRT ?_);try rfl)
  simp only[go_sem,Nat.reduceAdd,Nat.reduceSub,Nat.reduceMul,Nat.reduceLT,Nat.reduceEqDiff,Nat.reduceBEq,Nat.reduceLeDiff,Int.reduceToNat,↓reduceIte,Int.reduceEq,Int.reduceLT,Int.reduceLE,Int.reduceAdd,Int.reduceSub,Int.reduceNeg,reduceCtorEq,letB,d1,Bool.false_and]
theorem digit2_sat (c:Nat):SatG Tryz.prog tab 157 [] [U8 c] [] (B (digB c)):=by
 refine uFN Tryz.func157 Tryz.ntmps157 ?_;intro w e X hC
 cases d1:decide ((48:Int)<=c) with
 |true=>
  repeat refine uA1 @d1 ?_
  (refine awp_ret (ret1 uRT ?_);try rfl)
  simp only[go_sem,Nat.reduceAdd,Nat.reduceSub,Nat.reduceMul,Nat.reduceLT,Nat.reduceEqDiff,Nat.reduceBEq,Nat.reduceLeDiff,Int.reduceToNat,↓reduceIte,Int.reduceEq,Int.reduceLT,Int.reduceLE,Int.reduceAdd,Int.reduceSub,Int.reduceNeg,reduceCtorEq,digB,d1,Bool.true_and]
 |false=>
  repeat refine uA1 @d1 ?_
  (refine awp_ret (ret1 uRT ?_);try rfl)
  simp only[go_sem,Nat.reduceAdd,Nat.reduceSub,Nat.reduceMul,Nat.reduceLT,Nat.reduceEqDiff,Nat.reduceBEq,Nat.reduceLeDiff,Int.reduceToNat,↓reduceIte,Int.reduceEq,Int.reduceLT,Int.reduceLE,Int.reduceAdd,Int.reduceSub,Int.reduceNeg,reduceCtorEq,digB,d1,Bool.false_and]
theorem name1_sat (c:Nat):SatG Tryz.prog tab 174 [] [U8 c] [] (B (letB c||digB c)):=by
 have h1:=letter_sat c
 have h2:=digit_sat c
 generalize letB c=a at*
 generalize digB c=b at*
 refine uFN Tryz.func174 Tryz.ntmps174 ?_;intro w e X hC
 refine uA ?_
 refine uR ?_;intro K hK
 refine callF uTS (h1) uTS uTS uTS ?_;refine uS ?_
 cases a with
 |true=>
  first|refine uS ?_|exact uX
  refine hK _ ?_;clear hK K
  (refine awp_ret (ret1 uRT ?_);try rfl)
 |false=>
  first|refine uS ?_|exact uX
  refine callF uTS (h2) uTS uTS uTS ?_;refine uS ?_
  refine hK _ ?_;clear hK K
  (refine awp_ret (ret1 uRT ?_);try rfl)
theorem bs_size (s:ByteArray):(bs s).length=s.size:=by simp[bs_len]
theorem all_sat (s:ByteArray) (k:Nat) (p:Nat->Bool) (hl:(bs s).length<=1000) (hk:∀c,SatG Tryz.prog tab k [] [U8 c] [] (B (p c))):
  SatG Tryz.prog tab 173 [] [S s, .fn k []] [] (B ((bs s).all p)):=by
 have hbl:=bs_len s
 have hbz:=bs_size s
 refine uFN Tryz.func173 Tryz.ntmps173 ?_;intro w e X hC
 repeat ((repeat first|refine awp_seq ?_|refine awp_skip ?_|refine awp_block ?_);refine awp_region hC rfl fun K hK=>?_;simp only[go_sem,Nat.reduceAdd,Nat.reduceSub,Nat.reduceMul,Nat.reduceLT,Nat.reduceEqDiff,Nat.reduceBEq,Nat.reduceLeDiff,Int.reduceToNat,↓reduceIte,Int.reduceEq,Int.reduceLT,Int.reduceLE,Int.reduceAdd,Int.reduceSub,Int.reduceNeg,reduceCtorEq,<-hbl,<-hbz];(repeat ((with_reducible refine And.intro ?_ ?_);focus (((repeat' apply And.intro)<;>first|omega|(simp;done)|kernel_rfl))));refine hK _ ?_;clear hK K)
 refine uW ?_
 refine awp_loopW (fun i:Nat×Nat=>⟨[(0,S s),(1, .fn k []),(7,I (bs s).length),(8,I i.2)],[],i.1⟩) (fun i=>i.2<=(bs s).length/\∀j,j<i.2->p ((bs s).getD j 0)=true) (fun i=>(bs s).length - i.2) (_,0) ⟨Nat.zero_le _,fun j hj=>absurd hj (Nat.not_lt_zero _)⟩ (uKF) ?_
 rintro⟨ck,i⟩ ⟨hi,hj⟩
 simp only at hi hj
 repeat refine uA ?_
 refine uW ?_;refine condP _ rfl (fun h=>?_) (fun h=>?_)
 ·have hlt:i<(bs s).length:=by omega
  have hsat:=hk ((bs s).getD i 0)
  have hg:=bs_getD s i
  refine uA ?_
  cases c1:p ((bs s).getD i 0) with
  |true=>
   rw[c1] at hsat
   (repeat first|refine awp_seq ?_|refine awp_skip ?_|refine awp_block ?_);refine awp_region hC rfl fun K hK=>?_;simp only[go_sem,Nat.reduceAdd,Nat.reduceSub,Nat.reduceMul,Nat.reduceLT,Nat.reduceEqDiff,Nat.reduceBEq,Nat.reduceLeDiff,Int.reduceToNat,↓reduceIte,Int.reduceEq,Int.reduceLT,Int.reduceLE,Int.reduceAdd,Int.reduceSub,Int.reduceNeg,reduceCtorEq,hg,<-hbl,<-hbz]
   refine⟨by omega,?_⟩
   refine callF uTS (hsat) uTS uTS uTS ?_;refine uS ?_
   refine hK _ ?_;clear hK K
   refine uF ?_
   repeat refine uA ?_
   refine⟨(_,i+1),⟨by simp only;omega,fun j hj'=>?_⟩,by simp only;omega,uKF⟩
   by_cases hji:j=i
   ·subst hji;exact c1
   ·exact hj j (by simp only at hj';omega)
  |false=>
   rw[c1] at hsat
   (repeat first|refine awp_seq ?_|refine awp_skip ?_|refine awp_block ?_);refine awp_region hC rfl fun K hK=>?_;simp only[go_sem,Nat.reduceAdd,Nat.reduceSub,Nat.reduceMul,Nat.reduceLT,Nat.reduceEqDiff,Nat.reduceBEq,Nat.reduceLeDiff,Int.reduceToNat,↓reduceIte,Int.reduceEq,Int.reduceLT,Int.reduceLE,Int.reduceAdd,Int.reduceSub,Int.reduceNeg,reduceCtorEq,hg,<-hbl,<-hbz]
   refine⟨by omega,?_⟩
   refine callF uTS (hsat) uTS uTS uTS ?_;refine uS ?_
   refine hK _ ?_;clear hK K
   refine uT ?_
   repeat refine uA ?_
   (refine awp_ret (ret1 uRT ?_);try rfl)
   have:(bs s).all p=false:=by
    rw[List.all_eq_false]
    exact⟨_,mem_getD (d:=0) hlt,by rw[c1];simp⟩
   rw[this];rfl
 ·refine awp_exit ?_
  repeat refine uA ?_
  (refine awp_ret (ret1 uRT ?_);try rfl)
  have:(bs s).all p=true:=by
   rw[List.all_eq_true]
   intro c hc
   obtain⟨j,hj',rfl⟩:=List.getElem_of_mem hc
   have:=hj j (by omega)
   simpa[hj'] using this
  rw[this];rfl
theorem fname_sat (s:ByteArray) (hl:(bs s).length<=1000):SatG Tryz.prog tab 138 [] [S s,I 12] [] (B (nameOk s)):=by
 have hbl:=bs_len s
 have hbz:=bs_size s
 have hg:=bs_getD s 0
 have h1:=letter_sat ((bs s).getD 0 0)
 have h2:=all_sat s 174 (fun c=>letB c||digB c) hl name1_sat
 unfold nameOk
 generalize letB ((bs s).getD 0 0)=a at*
 generalize ((bs s).all fun c=>letB c||digB c)=b at*
 refine uFN Tryz.func138 Tryz.ntmps138 ?_;intro w e X hC
 refine uA ?_
 by_cases c0:1<=(bs s).length
 ·have d0:decide (1<=(bs s).length)=true:=decide_eq_true c0
  have de:decide (¬s.data.toList=[])=true:=decide_eq_true (fun h=>by rw[hbl,h] at c0;simp at c0)
  rw[d0,Bool.true_and]
  by_cases c2:(bs s).length<=12
  ·have d2:decide (((bs s).length:Int)<=12)=true:=decide_eq_true (by omega)
   have d3:decide ((bs s).length<=12)=true:=decide_eq_true c2
   rw[d3,Bool.true_and]
   (repeat first|refine awp_seq ?_|refine awp_skip ?_|refine awp_block ?_);refine awp_region hC rfl fun K hK=>?_;simp only[go_sem,Nat.reduceAdd,Nat.reduceSub,Nat.reduceMul,Nat.reduceLT,Nat.reduceEqDiff,Nat.reduceBEq,Nat.reduceLeDiff,Int.reduceToNat,↓reduceIte,Int.reduceEq,Int.reduceLT,Int.reduceLE,Int.reduceAdd,Int.reduceSub,Int.reduceNeg,reduceCtorEq,hg,<-hbl,<-hbz,de,d2]
   refine⟨by omega,?_⟩
   refine callF uTS (h1) uTS uTS uTS ?_;refine uS ?_
   cases a with
   |true=>
    first|refine uS ?_|exact uX
    refine callF uTS (h2) uTS uTS uTS ?_;refine uS ?_
    refine hK _ ?_;clear hK K
    (refine awp_ret (ret1 uRT ?_);try rfl)
   |false=>
    first|refine uS ?_|exact uX
    refine hK _ ?_;clear hK K
    (refine awp_ret (ret1 uRT ?_);try rfl)
  ·have d2:decide (((bs s).length:Int)<=12)=false:=decide_eq_false (by omega)
   have d3:decide ((bs s).length<=12)=false:=decide_eq_false c2
   rw[d3,Bool.false_and]
   (repeat first|refine awp_seq ?_|refine awp_skip ?_|refine awp_block ?_);refine awp_region hC rfl fun K hK=>?_;simp only[go_sem,Nat.reduceAdd,Nat.reduceSub,Nat.reduceMul,Nat.reduceLT,Nat.reduceEqDiff,Nat.reduceBEq,Nat.reduceLeDiff,Int.reduceToNat,↓reduceIte,Int.reduceEq,Int.reduceLT,Int.reduceLE,Int.reduceAdd,Int.reduceSub,Int.reduceNeg,reduceCtorEq,hg,<-hbl,<-hbz,de,d2]
   refine hK _ ?_;clear hK K
   (refine awp_ret (ret1 uRT ?_);try rfl)
 ·have d0:decide (1<=(bs s).length)=false:=decide_eq_false c0
  have de:decide (¬s.data.toList=[])=false:=decide_eq_false (fun h=>h (List.eq_nil_of_length_eq_zero (by omega)))
  rw[d0,Bool.false_and]
  (repeat first|refine awp_seq ?_|refine awp_skip ?_|refine awp_block ?_);refine awp_region hC rfl fun K hK=>?_;simp only[go_sem,Nat.reduceAdd,Nat.reduceSub,Nat.reduceMul,Nat.reduceLT,Nat.reduceEqDiff,Nat.reduceBEq,Nat.reduceLeDiff,Int.reduceToNat,↓reduceIte,Int.reduceEq,Int.reduceLT,Int.reduceLE,Int.reduceAdd,Int.reduceSub,Int.reduceNeg,reduceCtorEq,hg,<-hbl,<-hbz,de]
  refine hK _ ?_;clear hK K
  (refine awp_ret (ret1 uRT ?_);try rfl)
theorem name4_sat (s:ByteArray) (hl:(bs s).length<=1000):SatG Tryz.prog tab 114 [] [S s] [] (B (nameOk s)):=by
 have hbl:=bs_len s
 have hbz:=bs_size s
 have hg0:=bs_getD s 0
 have h1:=letter2_sat ((bs s).getD 0 0)
 unfold nameOk
 generalize hae:letB ((bs s).getD 0 0)=a at*
 refine uFN Tryz.func114 Tryz.ntmps114 ?_;intro w e X hC
 refine uA ?_
 refine awp_seq ?_
 refine awp_merge (fun q:Nat=>⟨[(0,S s)],[],q⟩) (fun _=>(decide (1<=(bs s).length)&&(decide ((bs s).length<=12)&&a))=true) ?_ ?_
 ·by_cases c0:1<=(bs s).length
  ·have d0:decide (1<=(bs s).length)=true:=decide_eq_true c0
   have de:decide (((bs s).length:Int)<1)=false:=decide_eq_false (by omega)
   by_cases c2:(bs s).length<=12
   ·have d2:decide ((12:Int)<(bs s).length)=false:=decide_eq_false (by omega)
    have d3:decide ((bs s).length<=12)=true:=decide_eq_true c2
    rw[d0,d3]
    (repeat first|refine awp_seq ?_|refine awp_skip ?_|refine awp_block ?_);refine awp_region hC rfl fun K hK=>?_;simp only[go_sem,Nat.reduceAdd,Nat.reduceSub,Nat.reduceMul,Nat.reduceLT,Nat.reduceEqDiff,Nat.reduceBEq,Nat.reduceLeDiff,Int.reduceToNat,↓reduceIte,Int.reduceEq,Int.reduceLT,Int.reduceLE,Int.reduceAdd,Int.reduceSub,Int.reduceNeg,reduceCtorEq,hg0,<-hbl,<-hbz,de,d2]
    refine⟨by omega,?_⟩
    refine callF uTS (h1) uTS uTS uTS ?_;refine uS ?_
    cases a with
    |true=>
     first|refine uS ?_|exact uX
     refine hK _ ?_;clear hK K
     refine uF ?_
     refine uW ?_
     refine⟨_,rfl,uKF⟩
    |false=>
     first|refine uS ?_|exact uX
     refine hK _ ?_;clear hK K
     refine uT ?_
     repeat refine uA ?_
     (refine awp_ret (ret1 uRT ?_);try rfl)
   ·have d2:decide ((12:Int)<(bs s).length)=true:=decide_eq_true (by omega)
    have d3:decide ((bs s).length<=12)=false:=decide_eq_false c2
    rw[d0,d3]
    (repeat first|refine awp_seq ?_|refine awp_skip ?_|refine awp_block ?_);refine awp_region hC rfl fun K hK=>?_;simp only[go_sem,Nat.reduceAdd,Nat.reduceSub,Nat.reduceMul,Nat.reduceLT,Nat.reduceEqDiff,Nat.reduceBEq,Nat.reduceLeDiff,Int.reduceToNat,↓reduceIte,Int.reduceEq,Int.reduceLT,Int.reduceLE,Int.reduceAdd,Int.reduceSub,Int.reduceNeg,reduceCtorEq,hg0,<-hbl,<-hbz,de,d2]
    refine hK _ ?_;clear hK K
    refine uT ?_
    repeat refine uA ?_
    (refine awp_ret (ret1 uRT ?_);try rfl)
  ·have d0:decide (1<=(bs s).length)=false:=decide_eq_false c0
   have de:decide (((bs s).length:Int)<1)=true:=decide_eq_true (by omega)
   rw[d0]
   (repeat first|refine awp_seq ?_|refine awp_skip ?_|refine awp_block ?_);refine awp_region hC rfl fun K hK=>?_;simp only[go_sem,Nat.reduceAdd,Nat.reduceSub,Nat.reduceMul,Nat.reduceLT,Nat.reduceEqDiff,Nat.reduceBEq,Nat.reduceLeDiff,Int.reduceToNat,↓reduceIte,Int.reduceEq,Int.reduceLT,Int.reduceLE,Int.reduceAdd,Int.reduceSub,Int.reduceNeg,reduceCtorEq,hg0,<-hbl,<-hbz,de]
   refine hK _ ?_;clear hK K
   refine uT ?_
   repeat refine uA ?_
   (refine awp_ret (ret1 uRT ?_);try rfl)
 rintro ck0 hok
 have hall:(decide (1<=(bs s).length)&&(decide ((bs s).length<=12)&&(a&&(bs s).all fun c=>letB c||digB c)))=(bs s).all fun c=>letB c||digB c:=by
  rw[<-Bool.and_assoc (decide ((bs s).length<=12)),<-Bool.and_assoc,hok,Bool.true_and]
 rw[hall]
 clear hall hok h1 hae
 repeat refine uA ?_
 refine uW ?_
 refine awp_loopW (fun i:Nat×Nat=>⟨[(0,S s),(3,I i.2)],[],i.1⟩) (fun i=>i.2<=(bs s).length/\∀j,j<i.2->(letB ((bs s).getD j 0)||digB ((bs s).getD j 0))=true) (fun i=>(bs s).length - i.2) (_,0) ⟨Nat.zero_le _,fun j hj=>absurd hj (Nat.not_lt_zero _)⟩ (uKF) ?_
 rintro⟨ck,i⟩ ⟨hi,hj⟩
 simp only at hi hj
 repeat ((repeat first|refine awp_seq ?_|refine awp_skip ?_|refine awp_block ?_);refine awp_region hC rfl fun K hK=>?_;simp only[go_sem,Nat.reduceAdd,Nat.reduceSub,Nat.reduceMul,Nat.reduceLT,Nat.reduceEqDiff,Nat.reduceBEq,Nat.reduceLeDiff,Int.reduceToNat,↓reduceIte,Int.reduceEq,Int.reduceLT,Int.reduceLE,Int.reduceAdd,Int.reduceSub,Int.reduceNeg,reduceCtorEq,<-hbl,<-hbz];(repeat ((with_reducible refine And.intro ?_ ?_);focus (((repeat' apply And.intro)<;>first|omega|(simp;done)|kernel_rfl))));refine hK _ ?_;clear hK K)
 refine uW ?_;refine condP _ rfl (fun h=>?_) (fun h=>?_)
 ·have hlt:i<(bs s).length:=by omega
  have h1:=letter2_sat ((bs s).getD i 0)
  have h2:=digit2_sat ((bs s).getD i 0)
  have hg:=bs_getD s i
  have hgood:(letB ((bs s).getD i 0)||digB ((bs s).getD i 0))=true->∀j,j<i+1->(letB ((bs s).getD j 0)||digB ((bs s).getD j 0))=true:=fun h j hj'=>by
   by_cases hji:j=i
   ·subst hji;exact h
   ·exact hj j (by omega)
  have hbad:(letB ((bs s).getD i 0)||digB ((bs s).getD i 0))=false->((bs s).all fun c=>letB c||digB c)=false:=fun h=>by
   rw[List.all_eq_false]
   exact⟨_,mem_getD (d:=0) hlt,by rw[h];simp⟩
  generalize letB ((bs s).getD i 0)=a at*
  generalize digB ((bs s).getD i 0)=b at*
  (repeat first|refine awp_seq ?_|refine awp_skip ?_|refine awp_block ?_);refine awp_region hC rfl fun K hK=>?_;simp only[go_sem,Nat.reduceAdd,Nat.reduceSub,Nat.reduceMul,Nat.reduceLT,Nat.reduceEqDiff,Nat.reduceBEq,Nat.reduceLeDiff,Int.reduceToNat,↓reduceIte,Int.reduceEq,Int.reduceLT,Int.reduceLE,Int.reduceAdd,Int.reduceSub,Int.reduceNeg,reduceCtorEq,hg,<-hbl,<-hbz]
  refine⟨by omega,?_⟩
  refine callF uTS (h1) uTS uTS uTS ?_;refine uS ?_
  cases a with
  |true=>
   first|refine uS ?_|exact uX
   refine hK _ ?_;clear hK K
   refine uF ?_
   repeat refine uA ?_
   refine⟨(_,i+1),⟨by simp only;omega,hgood rfl⟩,by simp only;omega,uKF⟩
  |false=>
   simp only[go_sem,Nat.reduceAdd,Nat.reduceSub,Nat.reduceMul,Nat.reduceLT,Nat.reduceEqDiff,Nat.reduceBEq,Nat.reduceLeDiff,Int.reduceToNat,↓reduceIte,Int.reduceEq,Int.reduceLT,Int.reduceLE,Int.reduceAdd,Int.reduceSub,Int.reduceNeg,reduceCtorEq,hg,<-hbl,<-hbz]
   refine⟨by omega,?_⟩
   refine callF uTS (h2) uTS uTS uTS ?_;refine uS ?_
   cases b with
   |true=>
    first|refine uS ?_|exact uX
    refine hK _ ?_;clear hK K
    refine uF ?_
    repeat refine uA ?_
    refine⟨(_,i+1),⟨by simp only;omega,hgood rfl⟩,by simp only;omega,uKF⟩
   |false=>
    first|refine uS ?_|exact uX
    refine hK _ ?_;clear hK K
    refine uT ?_
    repeat refine uA ?_
    rw[hbad rfl]
    (refine awp_ret (ret1 uRT ?_);try rfl)
 ·refine awp_exit ?_
  have:((bs s).all fun c=>letB c||digB c)=true:=by
   rw[List.all_eq_true]
   intro c hc
   obtain⟨j,hj',rfl⟩:=List.getElem_of_mem hc
   have:=hj j (by omega)
   simpa[hj'] using this
  rw[this]
  repeat refine uA ?_
  (refine awp_ret (ret1 uRT ?_);try rfl)
theorem lexits_sat (kd:Int):SatG Tryz.prog tab 176 [] [I kd] [] (I (exitsN kd)):=by
 refine uFN Tryz.func176 Tryz.ntmps176 ?_;intro w e X hC
 iterate 2 refine uA ?_
 have kds:kd=8\/kd=9\/kd=4\/kd=5\/kd=6\/(¬kd=4/\¬kd=5/\¬kd=6/\¬kd=8/\¬kd=9):=by omega
 rcases kds with rfl|rfl|rfl|rfl|rfl|⟨k4,k5,k6,k8,k9⟩
 ·repeat first|refine uC ?_|refine uA ?_
  (refine awp_ret (ret1 uRT ?_);try rfl)
 ·repeat first|refine uC ?_|refine uA ?_
  (refine awp_ret (ret1 uRT ?_);try rfl)
 ·repeat first|refine uC ?_|refine uA ?_
  (refine awp_ret (ret1 uRT ?_);try rfl)
 ·repeat first|refine uC ?_|refine uA ?_
  (refine awp_ret (ret1 uRT ?_);try rfl)
 ·repeat first|refine uC ?_|refine uA ?_
  (refine awp_ret (ret1 uRT ?_);try rfl)
 ·have d4:=decide_eq_false k4
  have d5:=decide_eq_false k5
  have d6:=decide_eq_false k6
  have d8:=decide_eq_false k8
  have d9:=decide_eq_false k9
  repeat first|refine uC ?_|refine uA1 (uI @d4 (uI @d5 (uI @d6 (uI @d8 @d9)))) ?_
  (refine awp_ret (ret1 uRT ?_);try rfl)
  rw[exitsN,if_neg (by omega),if_neg (by omega)];rfl
def lenOk (x:Nd):Bool:=if isStrip x.kd=true then(if x.kd=5 then decide (2<=x.ln) else decide (1<=x.ln))&&decide (x.ln<=8) else decide (x.ln=0)
theorem length_sat (x:Nd):SatG Tryz.prog tab 139 [] [x.av] [] (B (lenOk x)):=by
 have h1:=fstrip_sat x.kd
 unfold lenOk
 generalize isStrip x.kd=s at*
 refine uFN Tryz.func139 Tryz.ntmps139 ?_;intro w e X hC
 refine uA ?_
 refine uR ?_;intro K hK
 refine callF uTS (h1) uTS uTS uTS ?_;refine uS ?_
 cases s with
 |false=>
  first|refine uS ?_|exact uX
  refine hK _ ?_;clear hK K
  refine uT ?_
  repeat refine uA ?_
  (refine awp_ret (ret1 uRT ?_);try rfl)
 |true=>
  first|refine uS ?_|exact uX
  refine hK _ ?_;clear hK K
  refine uF ?_
  repeat refine uA ?_
  refine uW ?_;refine condP _ rfl (fun c5=>?_) (fun c5=>?_)
  ·cases c2:decide (2<=x.ln) with
   |true=>
    repeat first|refine uC ?_|refine uA1 @c2 ?_
    (refine awp_ret (ret1 uRT ?_);try rfl)
    simp only[go_sem,Nat.reduceAdd,Nat.reduceSub,Nat.reduceMul,Nat.reduceLT,Nat.reduceEqDiff,Nat.reduceBEq,Nat.reduceLeDiff,Int.reduceToNat,↓reduceIte,Int.reduceEq,Int.reduceLT,Int.reduceLE,Int.reduceAdd,Int.reduceSub,Int.reduceNeg,reduceCtorEq,if_pos c5,if_true,Bool.true_and,c2]
   |false=>
    repeat first|refine uC ?_|refine uA1 @c2 ?_
    (refine awp_ret (ret1 uRT ?_);try rfl)
    simp only[go_sem,Nat.reduceAdd,Nat.reduceSub,Nat.reduceMul,Nat.reduceLT,Nat.reduceEqDiff,Nat.reduceBEq,Nat.reduceLeDiff,Int.reduceToNat,↓reduceIte,Int.reduceEq,Int.reduceLT,Int.reduceLE,Int.reduceAdd,Int.reduceSub,Int.reduceNeg,reduceCtorEq,if_pos c5,if_true,Bool.false_and,c2]
  ·cases c2:decide (1<=x.ln) with
   |true=>
    repeat first|refine uC ?_|refine uA1 @c2 ?_
    (refine awp_ret (ret1 uRT ?_);try rfl)
    simp only[go_sem,Nat.reduceAdd,Nat.reduceSub,Nat.reduceMul,Nat.reduceLT,Nat.reduceEqDiff,Nat.reduceBEq,Nat.reduceLeDiff,Int.reduceToNat,↓reduceIte,Int.reduceEq,Int.reduceLT,Int.reduceLE,Int.reduceAdd,Int.reduceSub,Int.reduceNeg,reduceCtorEq,if_neg c5,if_true,Bool.true_and,c2]
   |false=>
    repeat first|refine uC ?_|refine uA1 @c2 ?_
    (refine awp_ret (ret1 uRT ?_);try rfl)
    simp only[go_sem,Nat.reduceAdd,Nat.reduceSub,Nat.reduceMul,Nat.reduceLT,Nat.reduceEqDiff,Nat.reduceBEq,Nat.reduceLeDiff,Int.reduceToNat,↓reduceIte,Int.reduceEq,Int.reduceLT,Int.reduceLE,Int.reduceAdd,Int.reduceSub,Int.reduceNeg,reduceCtorEq,if_neg c5,if_true,Bool.false_and,c2]
def leadK (N i:Int) (x:Nd) (k:Nat):Bool:=decide (0<=x.ex.getD k 0)&&(decide (x.ex.getD k 0<N)&&((decide (x.ex.getD k 0=i)==(decide (x.kd=5)&&decide (k=0)))&&!((x.ex.take k).any fun y=>decide (x.ex.getD k 0=y))))
def leadP (N i:Int) (x:Nd):Bool:=decide ((x.ex.length:Int)=exitsN x.kd)&&(List.range x.ex.length).all (leadK N i x)
theorem leadP_true {N i:Int} {x:Nd}:leadP N i x=true↔(x.ex.length:Int)=exitsN x.kd/\∀k,k<x.ex.length->leadK N i x k=true:=by
 simp only[leadP,Bool.and_eq_true,decide_eq_true_eq,List.all_eq_true,List.mem_range]
theorem leadP_bad {N i:Int} {x:Nd} {k:Nat} (hk:k<x.ex.length) (h:leadK N i x k=false):leadP N i x=false:=by
 cases h2:leadP N i x with
 |false=>rfl
 |true=>have:=(leadP_true.1 h2).2 k hk;rw[h] at this;cases this
theorem lleads_sat (y:Ly) (i:Nat) (hi:i<y.nodes.length) (hN:y.nodes.length<=1000) (hx:(y.nodes.getD i default).ex.length<=1000):
  SatG Tryz.prog tab 140 [] [y.av,I i] [] (B (leadP y.nodes.length i (y.nodes.getD i default))):=by
 refine uFN Tryz.func140 Tryz.ntmps140 ?_;intro w e X hC
 generalize e1:y.nodes.getD i default=x at*
 have hxs:=lexits_sat x.kd
 refine uA ?_
 repeat refine uA1 (uI (nds_getD hi) @e1) ?_
 refine awp_seq ?_
 refine awp_merge (fun q:Nat=>⟨[(1,I i),(2, .ptO 102 1 0 0 0),(5, .ptO 105 8 0 0 0)],(105,some (8, .box [S x.nm,I x.kd,I x.ln,I x.zn,IS x.ex]))::(102,some (1, .box [.sl (nds y.nodes) false, .sl (t3s y.devs) false]))::[],q⟩) (fun _=>(x.ex.length:Int)=exitsN x.kd) ?_ ?_
 ·refine uE ?_;intro K hK
  refine callF uTS (hxs) uTS uTS uTS ?_;refine uS ?_
  refine uH ?_
  refine hK _ ?_;clear hK K
  refine uW ?_;refine condP _ rfl (fun c0=>?_) (fun c0=>?_)
  ·repeat refine uA ?_
   (refine awp_ret (ret1 uRT ?_);try rfl)
   have:leadP y.nodes.length i x=false:=by simp[leadP,c0]
   rw[this];rfl
  ·refine uW ?_
   refine⟨_,Decidable.byContradiction c0,uKF⟩
 rintro ck0 hlen
 clear hxs
 repeat refine uA ?_
 refine uW ?_
 refine awp_loopW (fun q:Nat×Nat=>⟨[(1,I i),(2, .ptO 102 1 0 0 0),(5, .ptO 105 8 0 0 0),(22,IS x.ex),(23,I x.ex.length),(24,I q.2)],(105,some (8, .box [S x.nm,I x.kd,I x.ln,I x.zn,IS x.ex]))::(102,some (1, .box [.sl (nds y.nodes) false, .sl (t3s y.devs) false]))::[],q.1⟩) (fun q=>q.2<=x.ex.length/\∀j,j<q.2->leadK y.nodes.length i x j=true) (fun q=>x.ex.length - q.2) (_,0) ⟨Nat.zero_le _,fun j hj=>absurd hj (Nat.not_lt_zero _)⟩ (uKF) ?_
 rintro⟨ck,k⟩ ⟨hk,hj⟩
 simp only at hk hj
 repeat refine uA ?_
 refine uW ?_;refine condP _ rfl (fun h=>?_) (fun h=>?_)
 ·have hlt:k<x.ex.length:=by omega
  have hbad:=leadP_bad (N:=y.nodes.length) (i:=i) hlt
  obtain⟨lk,hkE⟩:∃lk,lk=leadK y.nodes.length i x k:=⟨_,rfl⟩
  rw[<-hkE] at hbad
  have hct:=containsI_sat (x.ex.take k) (x.ex.getD k 0) (by rw[List.length_take];omega)
  have dk:decide ((k:Int)=0)=decide (k=0):=by
   by_cases h0:k=0
   ·subst h0;rfl
   ·rw[decide_eq_false h0];exact decide_eq_false (by omega)
  have htk:(x.ex.take k).length=k:=by rw[List.length_take];omega
  have hgood:leadK y.nodes.length i x k=true->∀j,j<k+1->leadK y.nodes.length i x j=true:=fun h j hj'=>by
   by_cases hji:j=k
   ·subst hji;exact h
   ·exact hj j (by omega)
  rw[<-hkE] at hgood
  unfold leadK at hkE
  have bb1:(true==true)=true:=rfl
  have bb2:(true==false)=false:=rfl
  have bb3:(false==true)=false:=rfl
  have bb4:(false==false)=true:=rfl
  generalize ((x.ex.take k).any fun y=>decide (x.ex.getD k 0=y))=v at*
  generalize e2:x.ex.getD k 0=e at*
  refine uA1 (uI (ints_getD hlt) @e2) ?_
  cases d5:decide (x.kd=5) with
  |true=>
   cases d0':decide (k=0) with
   |true=>
    have d0:=dk.trans d0'
    cases dx:decide (e=(i:Int)) with
    |true=>
     refine uA1 (uI @d5 @d0) ?_
     cases c1:decide (e<0) with
     |true=>
      have q1:decide (0<=e)=false:=decide_eq_false (by have:=of_decide_eq_true c1;omega)
      rw[q1,Bool.false_and] at hkE
      refine uR1 @c1 ?_;intro K hK
      refine uH ?_
      refine hK _ ?_;clear hK K
      refine uT ?_
      repeat refine uA ?_
      rw[hbad hkE]
      (refine awp_ret (ret1 uRT ?_);try rfl)
     |false=>
      have q1:decide (0<=e)=true:=decide_eq_true (by have:=of_decide_eq_false c1;omega)
      rw[q1,Bool.true_and] at hkE
      cases c2:decide ((y.nodes.length:Int)<=e) with
      |true=>
       have q2:decide (e<(y.nodes.length:Int))=false:=decide_eq_false (by have:=of_decide_eq_true c2;omega)
       rw[q2,Bool.false_and] at hkE
       refine uR1 (uI @c1 @c2) ?_;intro K hK
       refine uH ?_
       refine hK _ ?_;clear hK K
       refine uT ?_
       repeat refine uA ?_
       rw[hbad hkE]
       (refine awp_ret (ret1 uRT ?_);try rfl)
      |false=>
       have q2:decide (e<(y.nodes.length:Int))=true:=decide_eq_true (by have:=of_decide_eq_false c2;omega)
       rw[q2,Bool.true_and] at hkE
       simp[d5,d0',dx] at hkE
       refine uR1 (uI @c1 (uI @c2 (uI @dx (uI @bb1 (uI @bb2 (uI @bb3 (uI @bb4 (uI @ints_take @htk)))))))) ?_;intro K hK
       refine⟨by omega,?_⟩
       refine callF uTS (hct) uTS uTS uTS ?_;refine uS ?_
       refine hK _ ?_;clear hK K
       cases v with
       |true=>
        refine uT ?_
        repeat refine uA ?_
        rw[hbad (by simpa using hkE)]
        (refine awp_ret (ret1 uRT ?_);try rfl)
       |false=>
        refine uF ?_
        repeat refine uA ?_
        refine⟨(_,k+1),⟨by simp only;omega,hgood (by simpa using hkE)⟩,by simp only;omega,uKF⟩
    |false=>
     refine uA1 (uI @d5 @d0) ?_
     cases c1:decide (e<0) with
     |true=>
      have q1:decide (0<=e)=false:=decide_eq_false (by have:=of_decide_eq_true c1;omega)
      rw[q1,Bool.false_and] at hkE
      refine uR1 @c1 ?_;intro K hK
      refine uH ?_
      refine hK _ ?_;clear hK K
      refine uT ?_
      repeat refine uA ?_
      rw[hbad hkE]
      (refine awp_ret (ret1 uRT ?_);try rfl)
     |false=>
      have q1:decide (0<=e)=true:=decide_eq_true (by have:=of_decide_eq_false c1;omega)
      rw[q1,Bool.true_and] at hkE
      cases c2:decide ((y.nodes.length:Int)<=e) with
      |true=>
       have q2:decide (e<(y.nodes.length:Int))=false:=decide_eq_false (by have:=of_decide_eq_true c2;omega)
       rw[q2,Bool.false_and] at hkE
       refine uR1 (uI @c1 @c2) ?_;intro K hK
       refine uH ?_
       refine hK _ ?_;clear hK K
       refine uT ?_
       repeat refine uA ?_
       rw[hbad hkE]
       (refine awp_ret (ret1 uRT ?_);try rfl)
      |false=>
       have q2:decide (e<(y.nodes.length:Int))=true:=decide_eq_true (by have:=of_decide_eq_false c2;omega)
       rw[q2,Bool.true_and] at hkE
       simp[d5,d0',dx] at hkE
       refine uR1 (uI @c1 (uI @c2 (uI @dx (uI @bb1 (uI @bb2 (uI @bb3 @bb4)))))) ?_;intro K hK
       refine uH ?_
       refine hK _ ?_;clear hK K
       refine uT ?_
       repeat refine uA ?_
       rw[hbad hkE]
       (refine awp_ret (ret1 uRT ?_);try rfl)
   |false=>
    have d0:=dk.trans d0'
    cases dx:decide (e=(i:Int)) with
    |true=>
     refine uA1 (uI @d5 @d0) ?_
     cases c1:decide (e<0) with
     |true=>
      have q1:decide (0<=e)=false:=decide_eq_false (by have:=of_decide_eq_true c1;omega)
      rw[q1,Bool.false_and] at hkE
      refine uR1 @c1 ?_;intro K hK
      refine uH ?_
      refine hK _ ?_;clear hK K
      refine uT ?_
      repeat refine uA ?_
      rw[hbad hkE]
      (refine awp_ret (ret1 uRT ?_);try rfl)
     |false=>
      have q1:decide (0<=e)=true:=decide_eq_true (by have:=of_decide_eq_false c1;omega)
      rw[q1,Bool.true_and] at hkE
      cases c2:decide ((y.nodes.length:Int)<=e) with
      |true=>
       have q2:decide (e<(y.nodes.length:Int))=false:=decide_eq_false (by have:=of_decide_eq_true c2;omega)
       rw[q2,Bool.false_and] at hkE
       refine uR1 (uI @c1 @c2) ?_;intro K hK
       refine uH ?_
       refine hK _ ?_;clear hK K
       refine uT ?_
       repeat refine uA ?_
       rw[hbad hkE]
       (refine awp_ret (ret1 uRT ?_);try rfl)
      |false=>
       have q2:decide (e<(y.nodes.length:Int))=true:=decide_eq_true (by have:=of_decide_eq_false c2;omega)
       rw[q2,Bool.true_and] at hkE
       simp[d5,d0',dx] at hkE
       refine uR1 (uI @c1 (uI @c2 (uI @dx (uI @bb1 (uI @bb2 (uI @bb3 @bb4)))))) ?_;intro K hK
       refine uH ?_
       refine hK _ ?_;clear hK K
       refine uT ?_
       repeat refine uA ?_
       rw[hbad hkE]
       (refine awp_ret (ret1 uRT ?_);try rfl)
    |false=>
     refine uA1 (uI @d5 @d0) ?_
     cases c1:decide (e<0) with
     |true=>
      have q1:decide (0<=e)=false:=decide_eq_false (by have:=of_decide_eq_true c1;omega)
      rw[q1,Bool.false_and] at hkE
      refine uR1 @c1 ?_;intro K hK
      refine uH ?_
      refine hK _ ?_;clear hK K
      refine uT ?_
      repeat refine uA ?_
      rw[hbad hkE]
      (refine awp_ret (ret1 uRT ?_);try rfl)
     |false=>
      have q1:decide (0<=e)=true:=decide_eq_true (by have:=of_decide_eq_false c1;omega)
      rw[q1,Bool.true_and] at hkE
      cases c2:decide ((y.nodes.length:Int)<=e) with
      |true=>
       have q2:decide (e<(y.nodes.length:Int))=false:=decide_eq_false (by have:=of_decide_eq_true c2;omega)
       rw[q2,Bool.false_and] at hkE
       refine uR1 (uI @c1 @c2) ?_;intro K hK
       refine uH ?_
       refine hK _ ?_;clear hK K
       refine uT ?_
       repeat refine uA ?_
       rw[hbad hkE]
       (refine awp_ret (ret1 uRT ?_);try rfl)
      |false=>
       have q2:decide (e<(y.nodes.length:Int))=true:=decide_eq_true (by have:=of_decide_eq_false c2;omega)
       rw[q2,Bool.true_and] at hkE
       simp[d5,d0',dx] at hkE
       refine uR1 (uI @c1 (uI @c2 (uI @dx (uI @bb1 (uI @bb2 (uI @bb3 (uI @bb4 (uI @ints_take @htk)))))))) ?_;intro K hK
       refine⟨by omega,?_⟩
       refine callF uTS (hct) uTS uTS uTS ?_;refine uS ?_
       refine hK _ ?_;clear hK K
       cases v with
       |true=>
        refine uT ?_
        repeat refine uA ?_
        rw[hbad (by simpa using hkE)]
        (refine awp_ret (ret1 uRT ?_);try rfl)
       |false=>
        refine uF ?_
        repeat refine uA ?_
        refine⟨(_,k+1),⟨by simp only;omega,hgood (by simpa using hkE)⟩,by simp only;omega,uKF⟩
  |false=>
   have d0:=trivial
   cases dx:decide (e=(i:Int)) with
   |true=>
    refine uA1 @d5 ?_
    cases c1:decide (e<0) with
    |true=>
     have q1:decide (0<=e)=false:=decide_eq_false (by have:=of_decide_eq_true c1;omega)
     rw[q1,Bool.false_and] at hkE
     refine uR1 @c1 ?_;intro K hK
     refine uH ?_
     refine hK _ ?_;clear hK K
     refine uT ?_
     repeat refine uA ?_
     rw[hbad hkE]
     (refine awp_ret (ret1 uRT ?_);try rfl)
    |false=>
     have q1:decide (0<=e)=true:=decide_eq_true (by have:=of_decide_eq_false c1;omega)
     rw[q1,Bool.true_and] at hkE
     cases c2:decide ((y.nodes.length:Int)<=e) with
     |true=>
      have q2:decide (e<(y.nodes.length:Int))=false:=decide_eq_false (by have:=of_decide_eq_true c2;omega)
      rw[q2,Bool.false_and] at hkE
      refine uR1 (uI @c1 @c2) ?_;intro K hK
      refine uH ?_
      refine hK _ ?_;clear hK K
      refine uT ?_
      repeat refine uA ?_
      rw[hbad hkE]
      (refine awp_ret (ret1 uRT ?_);try rfl)
     |false=>
      have q2:decide (e<(y.nodes.length:Int))=true:=decide_eq_true (by have:=of_decide_eq_false c2;omega)
      rw[q2,Bool.true_and] at hkE
      simp[d5,dx] at hkE
      refine uR1 (uI @c1 (uI @c2 (uI @dx (uI @bb1 (uI @bb2 (uI @bb3 @bb4)))))) ?_;intro K hK
      refine uH ?_
      refine hK _ ?_;clear hK K
      refine uT ?_
      repeat refine uA ?_
      rw[hbad hkE]
      (refine awp_ret (ret1 uRT ?_);try rfl)
   |false=>
    refine uA1 @d5 ?_
    cases c1:decide (e<0) with
    |true=>
     have q1:decide (0<=e)=false:=decide_eq_false (by have:=of_decide_eq_true c1;omega)
     rw[q1,Bool.false_and] at hkE
     refine uR1 @c1 ?_;intro K hK
     refine uH ?_
     refine hK _ ?_;clear hK K
     refine uT ?_
     repeat refine uA ?_
     rw[hbad hkE]
     (refine awp_ret (ret1 uRT ?_);try rfl)
    |false=>
     have q1:decide (0<=e)=true:=decide_eq_true (by have:=of_decide_eq_false c1;omega)
     rw[q1,Bool.true_and] at hkE
     cases c2:decide ((y.nodes.length:Int)<=e) with
     |true=>
      have q2:decide (e<(y.nodes.length:Int))=false:=decide_eq_false (by have:=of_decide_eq_true c2;omega)
      rw[q2,Bool.false_and] at hkE
      refine uR1 (uI @c1 @c2) ?_;intro K hK
      refine uH ?_
      refine hK _ ?_;clear hK K
      refine uT ?_
      repeat refine uA ?_
      rw[hbad hkE]
      (refine awp_ret (ret1 uRT ?_);try rfl)
     |false=>
      have q2:decide (e<(y.nodes.length:Int))=true:=decide_eq_true (by have:=of_decide_eq_false c2;omega)
      rw[q2,Bool.true_and] at hkE
      simp[d5,dx] at hkE
      refine uR1 (uI @c1 (uI @c2 (uI @dx (uI @bb1 (uI @bb2 (uI @bb3 (uI @bb4 (uI @ints_take @htk)))))))) ?_;intro K hK
      refine⟨by omega,?_⟩
      refine callF uTS (hct) uTS uTS uTS ?_;refine uS ?_
      refine hK _ ?_;clear hK K
      cases v with
      |true=>
       refine uT ?_
       repeat refine uA ?_
       rw[hbad (by simpa using hkE)]
       (refine awp_ret (ret1 uRT ?_);try rfl)
      |false=>
       refine uF ?_
       repeat refine uA ?_
       refine⟨(_,k+1),⟨by simp only;omega,hgood (by simpa using hkE)⟩,by simp only;omega,uKF⟩
 ·refine awp_exit ?_
  have:leadP y.nodes.length i x=true:=leadP_true.2 ⟨hlen,fun j hj'=>hj j (by omega)⟩
  rw[this]
  repeat refine uA ?_
  (refine awp_ret (ret1 uRT ?_);try rfl)
def nodeE (N i:Int) (x:Nd):Int:=
 if nameOk x.nm=false then 3 else if x.kd<1\/9<x.kd then 4 else if lenOk x=true/\(x.zn=0\/x.zn=1)/\leadP N i x=true then 0 else 1
theorem lnode_sat (y:Ly) (i:Nat) (hi:i<y.nodes.length) (hN:y.nodes.length<=1000) (hx:(y.nodes.getD i default).ex.length<=1000) (hnm:(bs (y.nodes.getD i default).nm).length<=1000):
  SatG Tryz.prog tab 102 [] [y.av,I i] [] (I (nodeE y.nodes.length i (y.nodes.getD i default))):=by
 have h1:=fname_sat _ hnm
 have h2:=length_sat (y.nodes.getD i default)
 have h3:=lleads_sat y i hi hN hx
 generalize e1:y.nodes.getD i default=x at*
 have hE:nodeE y.nodes.length i x=_:=nodeE.eq_1 _ _ _
 generalize nodeE y.nodes.length i x=r at*
 generalize nameOk x.nm=a at*
 generalize lenOk x=l at*
 generalize leadP y.nodes.length i x=p at*
 refine uFN Tryz.func102 Tryz.ntmps102 ?_;intro w e X hC
 refine uA ?_
 repeat refine uA1 (uI (nds_getD hi) @e1) ?_
 refine uR ?_;intro K hK
 refine callF uTS (h1) uTS uTS uTS ?_;refine uS ?_
 refine hK _ ?_;clear hK K
 cases a with
 |false=>
  refine uT ?_
  repeat refine uA ?_
  rw[if_pos rfl] at hE
  subst hE
  (refine awp_ret (ret1 uRT ?_);try rfl)
 |true=>
  rw[if_neg (by decide)] at hE
  refine uF ?_
  cases d1:decide (x.kd<1) with
  |true=>
   rw[if_pos (.inl (of_decide_eq_true d1))] at hE
   subst hE
   refine uR1 @d1 ?_;intro K hK
   refine hK _ ?_;clear hK K
   refine uT ?_
   repeat refine uA ?_
   (refine awp_ret (ret1 uRT ?_);try rfl)
  |false=>
   cases d2:decide (9<x.kd) with
   |true=>
    rw[if_pos (.inr (of_decide_eq_true d2))] at hE
    subst hE
    refine uR1 (uI @d1 @d2) ?_;intro K hK
    refine hK _ ?_;clear hK K
    refine uT ?_
    repeat refine uA ?_
    (refine awp_ret (ret1 uRT ?_);try rfl)
   |false=>
    rw[if_neg (by have:=of_decide_eq_false d1;have:=of_decide_eq_false d2;omega)] at hE
    refine uR1 (uI @d1 @d2) ?_;intro K hK
    refine hK _ ?_;clear hK K
    refine uF ?_
    refine uR ?_;intro K hK
    refine callF uTS (h2) uTS uTS uTS ?_;refine uS ?_
    cases l with
    |false=>
     rw[if_neg (by simp)] at hE
     subst hE
     first|refine uS ?_|exact uX
     refine hK _ ?_;clear hK K
     refine uT ?_
     repeat refine uA ?_
     (refine awp_ret (ret1 uRT ?_);try rfl)
    |true=>
     first|refine uS ?_|exact uX
     cases z0:decide (¬x.zn=0) with
     |false=>
      have q0:x.zn=0:=Decidable.byContradiction (of_decide_eq_false z0)
      first|refine uS1 @z0 ?_|exact uX1 @z0
      refine callF uTS (h3) uTS uTS uTS ?_;refine uS ?_
      cases p with
      |true=>
       rw[if_pos ⟨rfl, .inl q0,rfl⟩] at hE
       subst hE
       first|refine uS ?_|exact uX
       refine hK _ ?_;clear hK K
       refine uF ?_
       repeat refine uA ?_
       (refine awp_ret (ret1 uRT ?_);try rfl)
      |false=>
       rw[if_neg (by simp)] at hE
       subst hE
       first|refine uS ?_|exact uX
       refine hK _ ?_;clear hK K
       refine uT ?_
       repeat refine uA ?_
       (refine awp_ret (ret1 uRT ?_);try rfl)
     |true=>
      have q0:¬x.zn=0:=of_decide_eq_true z0
      cases z1:decide (¬x.zn=1) with
      |true=>
       have q1:¬x.zn=1:=of_decide_eq_true z1
       rw[if_neg (fun h=>h.2.1.elim q0 q1)] at hE
       subst hE
       first|refine uS1 (uI @z0 @z1) ?_|exact uX1 (uI @z0 @z1)
       refine hK _ ?_;clear hK K
       refine uT ?_
       repeat refine uA ?_
       (refine awp_ret (ret1 uRT ?_);try rfl)
      |false=>
       have q1:x.zn=1:=Decidable.byContradiction (of_decide_eq_false z1)
       first|refine uS1 (uI @z0 @z1) ?_|exact uX1 (uI @z0 @z1)
       refine callF uTS (h3) uTS uTS uTS ?_;refine uS ?_
       cases p with
       |true=>
        rw[if_pos ⟨rfl, .inr q1,rfl⟩] at hE
        subst hE
        first|refine uS ?_|exact uX
        refine hK _ ?_;clear hK K
        refine uF ?_
        repeat refine uA ?_
        (refine awp_ret (ret1 uRT ?_);try rfl)
       |false=>
        rw[if_neg (by simp)] at hE
        subst hE
        first|refine uS ?_|exact uX
        refine hK _ ?_;clear hK K
        refine uT ?_
        repeat refine uA ?_
        (refine awp_ret (ret1 uRT ?_);try rfl)
theorem ltotal_sat (y:Ly) (hy:y.nodes.length<=1000) (hx:∀i,i<y.nodes.length->0<=(y.nodes.getD i default).ln/\(y.nodes.getD i default).ln<=1000):
  SatG Tryz.prog tab 97 [] [y.av] [] (I (total y.nodes)):=by
 refine uFN Tryz.func97 Tryz.ntmps97 ?_;intro w e X hC
 repeat refine uA ?_
 refine uW ?_
 refine awp_loopW (fun i:Nat×Nat=>⟨[(1, .ptO 101 1 0 0 0),(3,I (totL y.nodes i.2)),(7, .sl (nds y.nodes) false),(8,I y.nodes.length),(9,I i.2)],(101,some (1, .box [.sl (nds y.nodes) false, .sl (t3s y.devs) false]))::[],i.1⟩) (fun i=>i.2<=y.nodes.length) (fun i=>y.nodes.length - i.2) (_,0) (Nat.zero_le _) (.of (Nat.le_refl _) (by repeat first|exact HOk.nil|refine uHN ?_|(refine HOk.cons ?_ ?_;(focus (simp only[go_sem,Nat.reduceAdd,Nat.reduceSub,Nat.reduceMul,Nat.reduceLT,Nat.reduceEqDiff,Nat.reduceBEq,Nat.reduceLeDiff,Int.reduceToNat,↓reduceIte,Int.reduceEq,Int.reduceLT,Int.reduceLE,Int.reduceAdd,Int.reduceSub,Int.reduceNeg,reduceCtorEq,totL];done)))) (by repeat first|exact WOk.nil|refine uWN ?_|(refine WOk.cons ?_ ?_;(focus (simp only[go_sem,Nat.reduceAdd,Nat.reduceSub,Nat.reduceMul,Nat.reduceLT,Nat.reduceEqDiff,Nat.reduceBEq,Nat.reduceLeDiff,Int.reduceToNat,↓reduceIte,Int.reduceEq,Int.reduceLT,Int.reduceLE,Int.reduceAdd,Int.reduceSub,Int.reduceNeg,reduceCtorEq,totL];done))))) ?_
 rintro⟨ck,i⟩ hi
 simp only at hi
 repeat refine uA ?_
 refine uW ?_;refine condP _ rfl (fun h=>?_) (fun h=>?_)
 ·have hn:i<y.nodes.length:=by omega
  have hb:=totL_le (fun j hj=>hx j (by omega)) i hi
  have hxi:=hx i hn
  have e1:totL y.nodes (i+1)=totL y.nodes i+(y.nodes.getD i default).ln:=rfl
  generalize totL y.nodes i=t at*
  repeat refine uA1 (nds_getD hn) ?_
  refine⟨(_,i+1),by simp only;omega,by simp only;omega, .of (Nat.le_refl _) uHF (uWF1 @e1)⟩
 ·refine awp_exit ?_
  have hi':i=y.nodes.length:=by omega
  subst hi'
  repeat refine uA ?_
  (refine awp_ret (ret1 uRT ?_);try rfl)
theorem find1_sat (x:Nd) (nm:ByteArray):SatG Tryz.prog tab 177 [] [x.av, .ptI [S nm]] [] (B (decide (x.nm=nm))):=by
 refine uFN Tryz.func177 Tryz.ntmps177 ?_;intro w e X hC
 repeat refine uA ?_
 (refine awp_ret (ret1 uRT ?_);try rfl)
 have:decide (x.nm.data.toList=nm.data.toList)=decide (x.nm=nm):=by
  by_cases h:x.nm=nm
  ·rw[h];simp
  ·rw[decide_eq_false h];exact decide_eq_false fun h2=>h (ba_eq h2)
 rw[<-this]
 rfl
theorem findN_idx (xs:List Nd) (nm:ByteArray):findN xs nm=idxR (fun x=>decide (x.nm=nm)) xs:=rfl
theorem lfind_sat (y:Ly) (nm:ByteArray) (hy:y.nodes.length<=1000):SatG Tryz.prog tab 141 [] [y.av,S nm] [] (I (findN y.nodes nm)):=by
 rw[findN_idx]
 refine uFN Tryz.func141 Tryz.ntmps141 ?_;intro w e X hC
 refine uA ?_
 refine uR ?_;intro K hK
 refine callP uTS ((ixfN_sat y.nodes 177 [S nm] (fun x=>decide (x.nm=nm)) hy (fun x _=>find1_sat x nm))) uTS uTS uTS ?_;refine uS ?_
 refine hK _ ?_;clear hK K
 (refine awp_ret (ret1 uRT ?_);try rfl)
def namedB (xs:List Nd):Bool:=(List.range xs.length).all fun i=>decide (findN xs (xs.getD i default).nm=(i:Int))
theorem range_all_true {n:Nat} {p:Nat->Bool} (h:∀i,i<n->p i=true):(List.range n).all p=true:=by
 rw[List.all_eq_true];intro i hi;exact h i (List.mem_range.1 hi)
theorem range_all_false {n i:Nat} {p:Nat->Bool} (hi:i<n) (h:p i=false):(List.range n).all p=false:=by
 rw[List.all_eq_false];exact⟨i,List.mem_range.2 hi,by rw[h];simp⟩
theorem lnamed_sat (y:Ly) (hy:y.nodes.length<=1000):SatG Tryz.prog tab 103 [] [y.av] [] (B (namedB y.nodes)):=by
 refine uFN Tryz.func103 Tryz.ntmps103 ?_;intro w e X hC
 repeat refine uA ?_
 refine uW ?_
 refine awp_loopW (fun i:Nat×Nat=>⟨[(1, .ptO 101 1 0 0 0),(6, .sl (nds y.nodes) false),(7,I y.nodes.length),(8,I i.2)],(101,some (1, .box [.sl (nds y.nodes) false, .sl (t3s y.devs) false]))::[],i.1⟩) (fun i=>i.2<=y.nodes.length/\∀j,j<i.2->decide (findN y.nodes (y.nodes.getD j default).nm=(j:Int))=true) (fun i=>y.nodes.length - i.2) (_,0) ⟨Nat.zero_le _,fun j hj=>absurd hj (Nat.not_lt_zero _)⟩ (uKF) ?_
 rintro⟨ck,i⟩ ⟨hi,hj⟩
 simp only at hi hj
 repeat refine uA ?_
 refine uW ?_;refine condP _ rfl (fun h=>?_) (fun h=>?_)
 ·have hn:i<y.nodes.length:=by omega
  have hsat:=lfind_sat y (y.nodes.getD i default).nm hy
  have hbad:=range_all_false (p:=fun i=>decide (findN y.nodes (y.nodes.getD i default).nm=(i:Int))) hn
  have hgood:decide (findN y.nodes (y.nodes.getD i default).nm=(i:Int))=true->∀j,j<i+1->decide (findN y.nodes (y.nodes.getD j default).nm=(j:Int))=true:=fun h j hj'=>by
   by_cases hji:j=i
   ·subst hji;exact h
   ·exact hj j (by omega)
  try simp only at hbad
  generalize e1:y.nodes.getD i default=x at*
  generalize findN y.nodes x.nm=f at*
  refine uA1 (uI (nds_getD hn) @e1) ?_
  refine uR ?_;intro K hK
  refine callP uTS (hsat) uTS uTS uTS ?_;refine uS ?_
  refine hK _ ?_;clear hK K
  refine uW ?_;refine condP _ rfl (fun c1=>?_) (fun c1=>?_)
  ·repeat refine uA ?_
   (refine awp_ret (ret1 uRT ?_);try rfl)
   rw[show namedB y.nodes=false from hbad (decide_eq_false c1)];rfl
  ·repeat refine uA ?_
   refine⟨(_,i+1),⟨by simp only;omega,hgood (decide_eq_true (Decidable.byContradiction c1))⟩,by simp only;omega,uKF⟩
 ·refine awp_exit ?_
  have:namedB y.nodes=true:=range_all_true fun j hj'=>hj j (by omega)
  rw[this]
  repeat refine uA ?_
  (refine awp_ret (ret1 uRT ?_);try rfl)
def zoneA (x:Nd):Bool:=if x.kd=1\/x.kd=3\/x.kd=6 then decide (x.zn=0) else if x.kd=7\/x.kd=8 then decide (x.zn=1) else true
def zoneW (x:Nd) (k:Nat):Int:=if x.kd=6/\k=1 then 1 else x.zn
def zoneK (xs:List Nd) (x:Nd) (k:Nat):Bool:=!(decide ((xs.getD (x.ex.getD k 0).toNat default).kd=1)||decide (¬(xs.getD (x.ex.getD k 0).toNat default).zn=zoneW x k))
def zoneB (xs:List Nd) (x:Nd):Bool:=zoneA x&&(List.range x.ex.length).all (zoneK xs x)
theorem lzoned_sat (y:Ly) (i:Nat) (hi:i<y.nodes.length) (hN:y.nodes.length<=1000) (hx:(y.nodes.getD i default).ex.length<=1000) (hr:∀k,k<(y.nodes.getD i default).ex.length->0<=(y.nodes.getD i default).ex.getD k 0/\(y.nodes.getD i default).ex.getD k 0<y.nodes.length):
  SatG Tryz.prog tab 104 [] [y.av,I i] [] (B (zoneB y.nodes (y.nodes.getD i default))):=by
 refine uFN Tryz.func104 Tryz.ntmps104 ?_;intro w e X hC
 generalize e1:y.nodes.getD i default=x at*
 refine uA ?_
 refine uR1 (uI (nds_getD hi) @e1) ?_;intro K hK
 refine uH ?_
 refine hK _ ?_;clear hK K
 refine awp_seq ?_
 refine awp_merge (fun q:Nat=>⟨[(1,I i),(2, .ptO 102 1 0 0 0),(5, .ptO 105 8 0 0 0)],(105,some (8, .box [S x.nm,I x.kd,I x.ln,I x.zn,IS x.ex]))::(102,some (1, .box [.sl (nds y.nodes) false, .sl (t3s y.devs) false]))::[],q⟩) (fun _=>zoneA x=true) ?_ ?_
 ·refine uR ?_;intro K hK
  refine hK _ ?_;clear hK K
  have kds:x.kd=1\/x.kd=3\/x.kd=6\/x.kd=7\/x.kd=8\/(¬x.kd=1/\¬x.kd=3/\¬x.kd=6/\¬x.kd=7/\¬x.kd=8):=by omega
  rcases kds with c|c|c|c|c|⟨n1,n3,n6,n7,n8⟩
  ·have d1:decide (x.kd=1)=true:=decide_eq_true c
   have hA:zoneA x=decide (x.zn=0):=by simp[zoneA,c]
   cases z0:decide (¬x.zn=0) with
   |true=>
    repeat first|refine uC ?_|refine uA1 (uI @d1 @z0) ?_
    have:zoneB y.nodes x=false:=by rw[zoneB,hA,decide_eq_false (of_decide_eq_true z0),Bool.false_and]
    rw[this]
    (refine awp_ret (ret1 uRT ?_);try rfl)
   |false=>
    repeat first|refine uC ?_|refine uA1 (uI @d1 @z0) ?_
    refine uW ?_
    refine⟨_,by rw[hA];exact decide_eq_true (Decidable.byContradiction (of_decide_eq_false z0)),uKF⟩
  ·have d1:decide (x.kd=1)=false:=decide_eq_false (by omega)
   have d3:decide (x.kd=3)=true:=decide_eq_true c
   have hA:zoneA x=decide (x.zn=0):=by simp[zoneA,c]
   cases z0:decide (¬x.zn=0) with
   |true=>
    repeat first|refine uC ?_|refine uA1 (uI @d1 (uI @d3 @z0)) ?_
    have:zoneB y.nodes x=false:=by rw[zoneB,hA,decide_eq_false (of_decide_eq_true z0),Bool.false_and]
    rw[this]
    (refine awp_ret (ret1 uRT ?_);try rfl)
   |false=>
    repeat first|refine uC ?_|refine uA1 (uI @d1 (uI @d3 @z0)) ?_
    refine uW ?_
    refine⟨_,by rw[hA];exact decide_eq_true (Decidable.byContradiction (of_decide_eq_false z0)),uKF⟩
  ·have d1:decide (x.kd=1)=false:=decide_eq_false (by omega)
   have d3:decide (x.kd=3)=false:=decide_eq_false (by omega)
   have d6:decide (x.kd=6)=true:=decide_eq_true c
   have hA:zoneA x=decide (x.zn=0):=by simp[zoneA,c]
   cases z0:decide (¬x.zn=0) with
   |true=>
    repeat first|refine uC ?_|refine uA1 (uI @d1 (uI @d3 (uI @d6 @z0))) ?_
    have:zoneB y.nodes x=false:=by rw[zoneB,hA,decide_eq_false (of_decide_eq_true z0),Bool.false_and]
    rw[this]
    (refine awp_ret (ret1 uRT ?_);try rfl)
   |false=>
    repeat first|refine uC ?_|refine uA1 (uI @d1 (uI @d3 (uI @d6 @z0))) ?_
    refine uW ?_
    refine⟨_,by rw[hA];exact decide_eq_true (Decidable.byContradiction (of_decide_eq_false z0)),uKF⟩
  ·have d1:decide (x.kd=1)=false:=decide_eq_false (by omega)
   have d3:decide (x.kd=3)=false:=decide_eq_false (by omega)
   have d6:decide (x.kd=6)=false:=decide_eq_false (by omega)
   have d7:decide (x.kd=7)=true:=decide_eq_true c
   have hA:zoneA x=decide (x.zn=1):=by simp[zoneA,c]
   cases z0:decide (¬x.zn=1) with
   |true=>
    repeat first|refine uC ?_|refine uA1 (uI @d1 (uI @d3 (uI @d6 (uI @d7 @z0)))) ?_
    have:zoneB y.nodes x=false:=by rw[zoneB,hA,decide_eq_false (of_decide_eq_true z0),Bool.false_and]
    rw[this]
    (refine awp_ret (ret1 uRT ?_);try rfl)
   |false=>
    repeat first|refine uC ?_|refine uA1 (uI @d1 (uI @d3 (uI @d6 (uI @d7 @z0)))) ?_
    refine uW ?_
    refine⟨_,by rw[hA];exact decide_eq_true (Decidable.byContradiction (of_decide_eq_false z0)),uKF⟩
  ·have d1:decide (x.kd=1)=false:=decide_eq_false (by omega)
   have d3:decide (x.kd=3)=false:=decide_eq_false (by omega)
   have d6:decide (x.kd=6)=false:=decide_eq_false (by omega)
   have d7:decide (x.kd=7)=false:=decide_eq_false (by omega)
   have d8:decide (x.kd=8)=true:=decide_eq_true c
   have hA:zoneA x=decide (x.zn=1):=by simp[zoneA,c]
   cases z0:decide (¬x.zn=1) with
   |true=>
    repeat first|refine uC ?_|refine uA1 (uI @d1 (uI @d3 (uI @d6 (uI @d7 (uI @d8 @z0))))) ?_
    have:zoneB y.nodes x=false:=by rw[zoneB,hA,decide_eq_false (of_decide_eq_true z0),Bool.false_and]
    rw[this]
    (refine awp_ret (ret1 uRT ?_);try rfl)
   |false=>
    repeat first|refine uC ?_|refine uA1 (uI @d1 (uI @d3 (uI @d6 (uI @d7 (uI @d8 @z0))))) ?_
    refine uW ?_
    refine⟨_,by rw[hA];exact decide_eq_true (Decidable.byContradiction (of_decide_eq_false z0)),uKF⟩
  ·have d1:=decide_eq_false n1
   have d3:=decide_eq_false n3
   have d6:=decide_eq_false n6
   have d7:=decide_eq_false n7
   have d8:=decide_eq_false n8
   repeat first|refine uC ?_|refine uA1 (uI @d1 (uI @d3 (uI @d6 (uI @d7 @d8)))) ?_
   refine uW ?_
   refine⟨_,by simp[zoneA,n1,n3,n6,n7,n8],uKF⟩
 rintro ck0 hA
 repeat refine uA ?_
 refine uW ?_
 refine awp_loopW (fun q:Nat×Nat=>⟨[(2, .ptO 102 1 0 0 0),(5, .ptO 105 8 0 0 0),(30,IS x.ex),(31,I x.ex.length),(32,I q.2)],(105,some (8, .box [S x.nm,I x.kd,I x.ln,I x.zn,IS x.ex]))::(102,some (1, .box [.sl (nds y.nodes) false, .sl (t3s y.devs) false]))::[],q.1⟩) (fun q=>q.2<=x.ex.length/\∀j,j<q.2->zoneK y.nodes x j=true) (fun q=>x.ex.length - q.2) (_,0) ⟨Nat.zero_le _,fun j hj=>absurd hj (Nat.not_lt_zero _)⟩ (uKF) ?_
 rintro⟨ck,k⟩ ⟨hk,hj⟩
 simp only at hk hj
 repeat refine uA ?_
 refine uW ?_;refine condP _ rfl (fun h=>?_) (fun h=>?_)
 ·have hlt:k<x.ex.length:=by omega
  obtain⟨r0,r1⟩:=hr k hlt
  have hbad:zoneK y.nodes x k=false->zoneB y.nodes x=false:=fun h=>by rw[zoneB,range_all_false hlt h,Bool.and_false]
  have hgood:zoneK y.nodes x k=true->∀j,j<k+1->zoneK y.nodes x j=true:=fun h j hj'=>by
   by_cases hji:j=k
   ·subst hji;exact h
   ·exact hj j (by omega)
  obtain⟨zk,hzk⟩:∃zk,zk=zoneK y.nodes x k:=⟨_,rfl⟩
  rw[<-hzk] at hbad hgood
  unfold zoneK at hzk
  obtain⟨m,hm⟩:∃m,m=(x.ex.getD k 0).toNat:=⟨_,rfl⟩
  have hmm:x.ex.getD k 0=(m:Int):=by omega
  rw[<-hm] at hzk
  have hmn:m<y.nodes.length:=by omega
  generalize e3:y.nodes.getD m default=t at*
  iterate 2 refine uA1 (uI (ints_getD hlt) @hmm) ?_
  refine awp_seq ?_
  refine awp_merge (fun q:Nat=>⟨[(2, .ptO 102 1 0 0 0),(5, .ptO 105 8 0 0 0),(7,I m),(8,I (zoneW x k)),(30,IS x.ex),(31,I x.ex.length),(32,I k)],(105,some (8, .box [S x.nm,I x.kd,I x.ln,I x.zn,IS x.ex]))::(102,some (1, .box [.sl (nds y.nodes) false, .sl (t3s y.devs) false]))::[],q⟩) (fun _=>True) ?_ ?_
  ·by_cases c6:x.kd=6
   ·have d6:=decide_eq_true c6
    by_cases ck1:k=1
    ·have dk:decide ((k:Int)=1)=true:=decide_eq_true (by omega)
     have hw:zoneW x k=1:=by rw[zoneW,if_pos ⟨c6,ck1⟩]
     repeat first|refine uC ?_|refine uA1 (uI @d6 @dk) ?_
     refine uW ?_
     refine⟨_,trivial, .of (Nat.le_refl _) (uHF1 @hw) (uWF1 @hw)⟩
    ·have dk:decide ((k:Int)=1)=false:=decide_eq_false (by omega)
     have hw:zoneW x k=x.zn:=by rw[zoneW,if_neg (fun h=>ck1 h.2)]
     repeat first|refine uC ?_|refine uA1 (uI @d6 @dk) ?_
     refine uW ?_
     refine⟨_,trivial, .of (Nat.le_refl _) (uHF1 @hw) (uWF1 @hw)⟩
   ·have d6:=decide_eq_false c6
    have hw:zoneW x k=x.zn:=by rw[zoneW,if_neg (fun h=>c6 h.1)]
    repeat first|refine uC ?_|refine uA1 @d6 ?_
    refine uW ?_
    refine⟨_,trivial, .of (Nat.le_refl _) (uHF1 @hw) (uWF1 @hw)⟩
  ·rintro ck1 -
   generalize zoneW x k=wt at*
   cases c1:decide (t.kd=1) with
   |true=>
    rw[c1,Bool.true_or] at hzk
    repeat first|refine uC ?_|refine uA1 (uI (nds_getD hmn) (uI @e3 @c1)) ?_
    rw[hbad hzk]
    (refine awp_ret (ret1 uRT ?_);try rfl)
   |false=>
    cases c2:decide (¬t.zn=wt) with
    |true=>
     rw[c1,c2] at hzk
     repeat first|refine uC ?_|refine uA1 (uI (nds_getD hmn) (uI @e3 (uI @c1 @c2))) ?_
     rw[hbad hzk]
     (refine awp_ret (ret1 uRT ?_);try rfl)
    |false=>
     rw[c1,c2] at hzk
     repeat first|refine uC ?_|refine uA1 (uI (nds_getD hmn) (uI @e3 (uI @c1 @c2))) ?_
     refine⟨(_,k+1),⟨by simp only;omega,hgood hzk⟩,by simp only;omega,uKF⟩
 ·refine awp_exit ?_
  have:zoneB y.nodes x=true:=by rw[zoneB,hA,range_all_true fun j hj'=>hj j (by omega)];rfl
  rw[this]
  repeat refine uA ?_
  (refine awp_ret (ret1 uRT ?_);try rfl)
def devOne (xs:List Nd) (d:T3):Int:=
 if ¬d.a=1/\¬d.a=2 then 4 else if d.b<0\/(xs.length:Int)<=d.b\/d.c<0\/(xs.getD d.b.toNat default).ln<=d.c then 1 else 0
def dupK (ds:List T3) (i:Nat):Bool:=!(ds.take i).any fun y=>eqT (ds.getD i default) y
def devE (xs:List Nd) (ds:List T3):Int:=match ds.find? fun d=>!decide (devOne xs d=0) with
 |some d=>devOne xs d
 |none=>if(List.range ds.length).all (dupK ds)=true then 0 else 5
theorem devE_bad {xs:List Nd} {ds:List T3} {i:Nat} (hi:i<ds.length) (h:∀j,j<i->devOne xs (ds.getD j default)=0) (hb:¬devOne xs (ds.getD i default)=0):devE xs ds=devOne xs (ds.getD i default):=by
 have:(ds.find? fun d=>!decide (devOne xs d=0))=some (ds.getD i default):=by
  rw[List.find?_eq_some_iff_getElem]
  refine⟨by simpa using hb,i,hi,by simp[hi],fun j hj=>?_⟩
  have hjl:j<ds.length:=by omega
  have:=h j hj
  simpa[hjl] using this
 rw[devE,this]
theorem devE_ok {xs:List Nd} {ds:List T3} (h:∀j,j<ds.length->devOne xs (ds.getD j default)=0):devE xs ds=if(List.range ds.length).all (dupK ds)=true then 0 else 5:=by
 have:(ds.find? fun d=>!decide (devOne xs d=0))=none:=by
  rw[List.find?_eq_none]
  intro d hd
  obtain⟨j,hj,rfl⟩:=List.getElem_of_mem hd
  have:=h j hj
  simpa[hj] using this
 rw[devE,this]
theorem ldevices_sat (y:Ly) (hN:y.nodes.length<=1000) (hD:y.devs.length<=1000):SatG Tryz.prog tab 106 [] [y.av] [] (I (devE y.nodes y.devs)):=by
 refine uFN Tryz.func106 Tryz.ntmps106 ?_;intro w e X hC
 repeat refine uA ?_
 refine uW ?_
 refine awp_loopW (fun q:Nat×Nat=>⟨[(1, .ptO 101 1 0 0 0),(8, .sl (t3s y.devs) false),(9,I y.devs.length),(10,I q.2)],(101,some (1, .box [.sl (nds y.nodes) false, .sl (t3s y.devs) false]))::[],q.1⟩) (fun q=>q.2<=y.devs.length/\∀j,j<q.2->devOne y.nodes (y.devs.getD j default)=0) (fun q=>y.devs.length - q.2) (_,0) ⟨Nat.zero_le _,fun j hj=>absurd hj (Nat.not_lt_zero _)⟩ (uKF) ?_
 rintro⟨ck,k⟩ ⟨hk,hj⟩
 simp only at hk hj
 repeat refine uA ?_
 refine uW ?_;refine condP _ rfl (fun h=>?_) (fun h=>?_)
 ·have hlt:k<y.devs.length:=by omega
  have hbad:=devE_bad hlt hj
  have hgood:devOne y.nodes (y.devs.getD k default)=0->∀j,j<k+1->devOne y.nodes (y.devs.getD j default)=0:=fun h j hj'=>by
   by_cases hji:j=k
   ·subst hji;exact h
   ·exact hj j (by omega)
  have hE:devOne y.nodes (y.devs.getD k default)=_:=devOne.eq_1 _ _
  generalize devOne y.nodes (y.devs.getD k default)=r at*
  generalize e1:y.devs.getD k default=d at*
  refine uA1 (uI (t3s_getD hlt) @e1) ?_
  refine awp_block ?_
  refine awp_seq ?_
  refine awp_merge (fun q:Nat=>⟨[(1, .ptO 101 1 0 0 0),(4, .ptO 104 (ck+3) 0 0 0),(8, .sl (t3s y.devs) false),(9,I y.devs.length),(10,I k),(14,B (decide (¬d.a=1/\¬d.a=2)))],(104,some (ck+3, .box [I d.a,I d.b,I d.c]))::(101,some (1, .box [.sl (nds y.nodes) false, .sl (t3s y.devs) false]))::[],q⟩) (fun _=>True) ?_ ?_
  ·cases d1:decide (¬d.a=1) with
   |true=>
    have h1:=of_decide_eq_true d1
    cases d2:decide (¬d.a=2) with
    |true=>
     rw[decide_eq_true (show ¬d.a=1/\¬d.a=2 from⟨h1,of_decide_eq_true d2⟩)]
     repeat refine uA1 (uI @d1 @d2) ?_
     refine⟨_,trivial,uKF⟩
    |false=>
     have h2:=of_decide_eq_false d2
     rw[decide_eq_false (show ¬(¬d.a=1/\¬d.a=2) from fun h=>h2 h.2)]
     repeat refine uA1 (uI @d1 @d2) ?_
     refine⟨_,trivial,uKF⟩
   |false=>
    have h1:=of_decide_eq_false d1
    rw[decide_eq_false (show ¬(¬d.a=1/\¬d.a=2) from fun h=>h1 h.1)]
    repeat refine uA1 @d1 ?_
    refine⟨_,trivial,uKF⟩
  rintro ck1 -
  refine uW ?_;refine condP _ rfl (fun ca=>?_) (fun ca=>?_)
  ·rw[if_pos ca] at hE
   repeat refine uA ?_
   rw[hbad (by omega),hE]
   (refine awp_ret (ret1 uRT ?_);try rfl)
  rw[if_neg ca] at hE
  cases d1:decide (d.b<0) with
  |true=>
   rw[if_pos (.inl (of_decide_eq_true d1))] at hE
   refine uE1 @d1 ?_;intro K hK
   refine uH ?_
   refine hK _ ?_;clear hK K
   refine uT ?_
   repeat refine uA ?_
   rw[hbad (by omega),hE]
   (refine awp_ret (ret1 uRT ?_);try rfl)
  |false=>
   have g1:=of_decide_eq_false d1
   cases d2:decide ((y.nodes.length:Int)<=d.b) with
   |true=>
    rw[if_pos (.inr (.inl (of_decide_eq_true d2)))] at hE
    refine uE1 (uI @d1 @d2) ?_;intro K hK
    refine uH ?_
    refine hK _ ?_;clear hK K
    refine uT ?_
    repeat refine uA ?_
    rw[hbad (by omega),hE]
    (refine awp_ret (ret1 uRT ?_);try rfl)
   |false=>
    have g2:=of_decide_eq_false d2
    cases d3:decide (d.c<0) with
    |true=>
     rw[if_pos (.inr (.inr (.inl (of_decide_eq_true d3))))] at hE
     refine uE1 (uI @d1 (uI @d2 @d3)) ?_;intro K hK
     refine uH ?_
     refine hK _ ?_;clear hK K
     refine uT ?_
     repeat refine uA ?_
     rw[hbad (by omega),hE]
     (refine awp_ret (ret1 uRT ?_);try rfl)
    |false=>
     have g3:=of_decide_eq_false d3
     obtain⟨m,hm⟩:∃m,m=d.b.toNat:=⟨_,rfl⟩
     have hmm:d.b=(m:Int):=by omega
     rw[<-hm] at hE
     have hmn:m<y.nodes.length:=by omega
     generalize e2:y.nodes.getD m default=x at*
     have d2':decide ((y.nodes.length:Int)<=m)=false:=decide_eq_false (by omega)
     have d1':decide ((m:Int)<0)=false:=decide_eq_false (by omega)
     cases d4:decide (x.ln<=d.c) with
     |true=>
      rw[if_pos (.inr (.inr (.inr (of_decide_eq_true d4))))] at hE
      refine uE1 (uI @hmm (uI @d1' (uI @d2' (uI @d3 (uI (nds_getD hmn) (uI @e2 @d4)))))) ?_;intro K hK
      refine uH ?_
      refine hK _ ?_;clear hK K
      refine uT ?_
      repeat refine uA ?_
      rw[hbad (by omega),hE]
      (refine awp_ret (ret1 uRT ?_);try rfl)
     |false=>
      have g4:=of_decide_eq_false d4
      rw[if_neg (fun h=>by rcases h with h|h|h|h<;>omega)] at hE
      refine uE1 (uI @hmm (uI @d1' (uI @d2' (uI @d3 (uI (nds_getD hmn) (uI @e2 @d4)))))) ?_;intro K hK
      refine uH ?_
      refine hK _ ?_;clear hK K
      refine uF ?_
      repeat refine uA ?_
      refine⟨(_,k+1),⟨by simp only;omega,hgood hE⟩,by simp only;omega,uKF⟩
 ·refine awp_exit ?_
  obtain rfl:k=y.devs.length:=by omega
  rw[devE_ok hj]
  clear hj
  repeat refine uA ?_
  refine uW ?_
  refine awp_loopW (fun q:Nat×Nat=>⟨[(1, .ptO 101 1 0 0 0),(54, .sl (t3s y.devs) false),(55,I y.devs.length),(56,I q.2)],(101,some (1, .box [.sl (nds y.nodes) false, .sl (t3s y.devs) false]))::[],q.1⟩) (fun q=>q.2<=y.devs.length/\∀j,j<q.2->dupK y.devs j=true) (fun q=>y.devs.length - q.2) (_,0) ⟨Nat.zero_le _,fun j hj=>absurd hj (Nat.not_lt_zero _)⟩ (uKF) ?_
  rintro⟨ck2,k⟩ ⟨hk,hj⟩
  simp only at hk hj
  repeat refine uA ?_
  refine uW ?_;refine condP _ rfl (fun h=>?_) (fun h=>?_)
  ·have hlt:k<y.devs.length:=by omega
   have hct:=containsD_sat (y.devs.take k) (y.devs.getD k default) (by rw[List.length_take];omega)
   have hbad:dupK y.devs k=false->(List.range y.devs.length).all (dupK y.devs)=false:=range_all_false hlt
   have hgood:dupK y.devs k=true->∀j,j<k+1->dupK y.devs j=true:=fun h j hj'=>by
    by_cases hji:j=k
    ·subst hji;exact h
    ·exact hj j (by omega)
   unfold dupK at hbad hgood
   have htk:(y.devs.take k).length=k:=by rw[List.length_take];omega
   generalize ((y.devs.take k).any fun z=>eqT (y.devs.getD k default) z)=v at*
   generalize e1:y.devs.getD k default=d at*
   refine uA1 (uI (t3s_getD hlt) @e1) ?_
   refine uE1 (uI @t3s_take @htk) ?_;intro K hK
   refine⟨by omega,?_⟩
   refine callF uTS (hct) uTS uTS uTS ?_;refine uS ?_
   refine uH ?_
   refine hK _ ?_;clear hK K
   cases v with
   |true=>
    rw[if_neg (fun h=>absurd (h.symm.trans (hbad rfl)) (by decide))]
    refine uT ?_
    repeat refine uA ?_
    (refine awp_ret (ret1 uRT ?_);try rfl)
   |false=>
    refine uF ?_
    repeat refine uA ?_
    refine⟨(_,k+1),⟨by simp only;omega,hgood rfl⟩,by simp only;omega,uKF⟩
  ·refine awp_exit ?_
   rw[if_pos (range_all_true fun j hj'=>hj j (by omega))]
   repeat refine uA ?_
   (refine awp_ret (ret1 uRT ?_);try rfl)
theorem mfind_succ (n:Int):∀(l:List (Int×Int)) (i:Nat),mfind n l (i+1)=(mfind n l i).map fun q=>(q.1+1,q.2)
 |[],_=>rfl
 |p::l,i=>by
  rw[mfind,mfind]
  split
  ·rfl
  ·exact mfind_succ n l (i+1)
theorem mget_cons (p:Int×Int) (l:List (Int×Int)) (m:Int):mget (p::l) m=if m=p.1 then p.2 else mget l m:=by
 unfold mget
 rw[mfind]
 by_cases h:m=p.1
 ·rw[if_pos h,if_pos h]
 ·rw[if_neg h,if_neg h,mfind_succ]
  cases mfind m l 0<;>rfl
theorem mset_cons (p:Int×Int) (l:List (Int×Int)) (n v:Int):mset (p::l) n v=if n=p.1 then(n,v)::l else p::mset l n v:=by
 unfold mset
 rw[mfind]
 by_cases h:n=p.1
 ·rw[if_pos h,if_pos h];rfl
 ·rw[if_neg h,if_neg h,mfind_succ]
  cases mfind n l 0 with
  |none=>rfl
  |some q=>rfl
theorem mget_mset (n v m:Int):∀l:List (Int×Int),mget (mset l n v) m=if m=n then v else mget l m
 |[]=>by
  show mget [(n,v)] m=_
  rw[mget_cons]
 |p::l=>by
  rw[mset_cons]
  split
  ·rename_i h
   rw[mget_cons,mget_cons]
   by_cases hm:m=n
   ·simp[hm]
   ·simp[hm,<-h]
  ·rename_i h
   rw[mget_cons,mget_cons,mget_mset n v m l]
   by_cases hm:m=n
   ·subst hm;simp[h]
   ·simp[hm]
def own1 (ex:List Int) (k i:Int):Int:=(ex.countP fun e=>decide (e=i)&&!decide (e=k):Nat)
theorem own1_snoc (ex:List Int) (e k i:Int):own1 (ex++[e]) k i=own1 ex k i+if e=i/\¬e=k then 1 else 0:=by
 unfold own1
 rw[List.countP_append]
 by_cases h:e=i/\¬e=k
 ·rw[if_pos h];simp[h.1,h.2,List.countP_cons]
  rw[<-h.1];simp[h.2]
 ·rw[if_neg h]
  have:(decide (e=i)&&!decide (e=k))=false:=by
   by_cases h1:e=i
   ·have:e=k:=Decidable.byContradiction fun h2=>h ⟨h1,h2⟩
    simp[this]
   ·simp[h1]
  simp[List.countP_cons,this]
theorem own1_nonneg (ex:List Int) (k i:Int):0<=own1 ex k i:=by unfold own1;omega
theorem own1_le (ex:List Int) (k i:Int):own1 ex k i<=ex.length:=by
 unfold own1
 have:=List.countP_le_length (l:=ex) (p:=fun e=>decide (e=i)&&!decide (e=k))
 omega
theorem own1_zero {ex:List Int} {k i:Int}:own1 ex k i=0↔¬(¬k=i/\i∈ex):=by
 unfold own1
 rw[show((ex.countP fun e=>decide (e=i)&&!decide (e=k):Nat):Int)=0↔(ex.countP fun e=>decide (e=i)&&!decide (e=k))=0 by omega,List.countP_eq_zero]
 constructor
 ·rintro h ⟨h1,h2⟩
  have:=h i h2
  simp at this
  exact h1 this.symm
 ·intro h a ha h2
  simp only[Bool.and_eq_true,decide_eq_true_eq,Bool.not_eq_true',decide_eq_false_iff_not] at h2
  obtain⟨rfl,h3⟩:=h2
  exact h ⟨fun h4=>h3 h4.symm,ha⟩
def wts (xs:List Nd) (out:List Int) (i:Int):Nat->Int
 |0=>0
 |k+1=>wts xs out i k+if(k:Int)∈out then 0 else own1 (xs.getD k default).ex k i
theorem wts_nonneg (xs:List Nd) (out:List Int) (i:Int):∀k,0<=wts xs out i k
 |0=>Int.le_refl _
 |k+1=>by
  have:=wts_nonneg xs out i k
  have:=own1_nonneg (xs.getD k default).ex k i
  rw[wts];split<;>omega
theorem wts_le {xs:List Nd} {out:List Int} {i:Int} (hx:∀k,k<xs.length->(xs.getD k default).ex.length<=1000):∀k,k<=xs.length->wts xs out i k<=1000*k
 |0,_=>by simp[wts]
 |k+1,h=>by
  have:=wts_le (out:=out) (i:=i) hx k (by omega)
  have:=own1_le (xs.getD k default).ex k i
  have:=hx k (by omega)
  rw[wts];split<;>omega
theorem wts_zero {xs:List Nd} {out:List Int} {i:Int}:∀{n},wts xs out i n=0↔∀k,k<n->¬(k:Int)∈out->own1 (xs.getD k default).ex k i=0
 |0=>by simp[wts]
 |n+1=>by
  have ih:=wts_zero (xs:=xs) (out:=out) (i:=i) (n:=n)
  have h1:=wts_nonneg xs out i n
  have h2:=own1_nonneg (xs.getD n default).ex n i
  rw[wts]
  constructor
  ·intro h k hk hko
   have hw:wts xs out i n=0:=by split at h<;>omega
   by_cases hkn:k=n
   ·subst hkn;rw[if_neg hko] at h;omega
   ·exact ih.1 hw k (by omega) hko
  ·intro h
   have hw:=ih.2 fun k hk=>h k (by omega)
   rw[hw]
   split
   ·rfl
   ·rename_i ho
    rw[h n (by omega) ho];rfl
theorem wts_out {xs:List Nd} {out:List Int} {i:Int} {m:Nat} (hm:¬(m:Int)∈out):∀n,wts xs (out++[(m:Int)]) i n=wts xs out i n - if m<n then own1 (xs.getD m default).ex m i else 0
 |0=>by simp[wts]
 |n+1=>by
  have ih:=wts_out (xs:=xs) (i:=i) hm n
  rw[wts,wts,ih]
  by_cases hmn:m=n
  ·subst hmn
   simp[hm]
  ·have e1:((n:Int)∈out++[(m:Int)])↔(n:Int)∈out:=by
    simp only[List.mem_append,List.mem_singleton]
    exact⟨fun h=>h.elim id fun h=>by omega, .inl⟩
   simp only[e1]
   by_cases hlt:m<n
   ·simp only[if_pos hlt,if_pos (show m<n+1 by omega)];split<;>omega
   ·simp only[if_neg hlt,if_neg (show ¬m<n+1 by omega)];split<;>omega
theorem rdyK_iff {xs:List Nd} {out:List Int} {i:Nat}:∀{n},rdyK xs out i n=true↔¬(i:Int)∈out/\∀k,k<n->leadsB (xs.getD k default) k i=true->(k:Int)∈out
 |0=>by simp[rdyK]
 |n+1=>by
  rw[rdyK]
  constructor
  ·intro h
   split at h
   ·cases h
   ·rename_i h2
    obtain⟨h3,h4⟩:=rdyK_iff.1 h
    refine⟨h3,fun k hk hl=>?_⟩
    by_cases hkn:k=n
    ·subst hkn
     exact Decidable.byContradiction fun ho=>h2 ⟨hl,ho⟩
    ·exact h4 k (by omega) hl
  ·rintro⟨h1,h2⟩
   rw[if_neg (fun h=>h.2 (h2 n (by omega) h.1))]
   exact rdyK_iff.2 ⟨h1,fun k hk=>h2 k (by omega)⟩
theorem rdy_wts {xs:List Nd} {out:List Int} {i:Nat}:rdyK xs out i xs.length=(!decide ((i:Int)∈out)&&decide (wts xs out i xs.length=0)):=by
 rw[Bool.eq_iff_iff,rdyK_iff]
 simp only[Bool.and_eq_true,Bool.not_eq_true',decide_eq_false_iff_not,decide_eq_true_eq,wts_zero,own1_zero,leadsB]
 refine and_congr_right fun _=>⟨fun h k hk ho h2=>ho (h k hk h2),fun h k hk h2=>Decidable.byContradiction fun ho=>h k hk ho h2⟩
theorem nxF_first {xs:List Nd} {out:List Int} {i:Nat} (hi:i<xs.length) (h:rdyK xs out i xs.length=true) (hb:∀j,j<i->rdyK xs out j xs.length=false):nxt xs out=i:=by
 have:∀c,c<=xs.length->xs.length - c<=i->nxF xs out c=i:=by
  intro c
  induction c with
  |zero=>intro _ h2;omega
  |succ c ih=>
   intro h1 h2
   rw[nxF]
   by_cases he:xs.length - 1 - c=i
   ·rw[he,if_pos h]
   ·rw[hb _ (by omega),if_neg (by decide)]
    exact ih (by omega) (by omega)
 exact this xs.length (Nat.le_refl _) (by omega)
theorem nxF_none {xs:List Nd} {out:List Int} (hb:∀j,j<xs.length->rdyK xs out j xs.length=false):nxt xs out=-1:=by
 have:∀c,c<=xs.length->nxF xs out c=-1:=by
  intro c
  induction c with
  |zero=>intro _;rfl
  |succ c ih=>
   intro h1
   rw[nxF,hb _ (by omega),if_neg (by decide)]
   exact ih (by omega)
 exact this xs.length (Nat.le_refl _)
def dl (N:Nat) (o:List Int):List Bool:=(List.range N).map fun(i:Nat)=>decide ((i:Int)∈o)
theorem dl_len (N:Nat) (o:List Int):(dl N o).length=N:=by simp[dl]
theorem dl_getD {N i:Nat} {o:List Int} (h:i<N):(dl N o).getD i false=decide ((i:Int)∈o):=by simp[dl,h]
theorem dl_nil (N:Nat):List.replicate N false=dl N []:=by
 apply List.ext_getElem
 ·simp[dl]
 ·intro i h1 h2;simp[dl]
theorem dl_snoc {N m:Nat} {o:List Int}:(dl N o).set m true=dl N (o++[(m:Int)]):=by
 apply List.ext_getElem
 ·simp[dl]
 ·intro i h1 h2
  rw[List.getElem_set]
  by_cases h:m=i
  ·subst h;simp[dl]
  ·have:¬(i:Int)=(m:Int):=by omega
   simp[dl,h,this]
theorem nxF_rdy {xs:List Nd} {out:List Int}:∀c,0<=nxF xs out c->rdyK xs out (nxF xs out c).toNat xs.length=true
 |0,h=>by rw[nxF] at h;omega
 |c+1,h=>by
  rw[nxF] at h ⊢
  by_cases h2:rdyK xs out (xs.length - 1 - c) xs.length=true
  ·rw[if_pos h2,Int.toNat_natCast];exact h2
  ·rw[if_neg h2] at h ⊢;exact nxF_rdy c h
theorem sorted_sat (y:Ly) (hy:y.nodes.length<=1000) (hx:∀i,i<y.nodes.length->(y.nodes.getD i default).ex.length<=1000) (hr:∀i,i<y.nodes.length->∀j,j<(y.nodes.getD i default).ex.length->0<=(y.nodes.getD i default).ex.getD j 0/\(y.nodes.getD i default).ex.getD j 0<y.nodes.length):
  SatG Tryz.prog tab 105 [] [y.av] [] (IS (order y.nodes)):=by
 refine uFN Tryz.func105 Tryz.ntmps105 ?_;intro w e X hC
 repeat refine uA ?_
 refine uW ?_
 refine awp_loopW (fun q:Nat×Nat×List (Int×Int)=>⟨[(1, .ptO 101 1 0 0 0),(3, .mpO 114 3),(16, .sl (nds y.nodes) false),(17,I y.nodes.length),(18,I q.2.1)],(114,some (3, .mp q.2.2))::(101,some (1, .box [.sl (nds y.nodes) false, .sl (t3s y.devs) false]))::[],q.1⟩) (fun q=>q.2.1<=y.nodes.length/\∀i,mget q.2.2 i=wts y.nodes [] i q.2.1) (fun q=>y.nodes.length - q.2.1) (_,0,[]) ⟨Nat.zero_le _,fun _=>rfl⟩ (uKF) ?_
 rintro⟨ck,a,es⟩ ⟨ha,hes⟩
 simp only at ha hes
 repeat refine uA ?_
 refine uW ?_;refine condP _ rfl (fun h=>?_) (fun h=>?_)
 ·have hlt:a<y.nodes.length:=by omega
  have hxa:=hx a hlt
  have hW:∀i,wts y.nodes [] i (a+1)=wts y.nodes [] i a+own1 (y.nodes.getD a default).ex a i:=fun i=>by rw[wts,if_neg (by simp)]
  have hWl:∀i,wts y.nodes [] i a<=1000*a:=fun i=>wts_le hx a ha
  have hWn:∀i,0<=wts y.nodes [] i a:=fun i=>wts_nonneg _ _ _ _
  generalize e1:y.nodes.getD a default=x at*
  repeat refine uA1 (uI (nds_getD hlt) @e1) ?_
  refine uW ?_
  refine awp_loopW (fun q:Nat×Nat×List (Int×Int)=>⟨[(1, .ptO 101 1 0 0 0),(3, .mpO 114 3),(4,I a),(16, .sl (nds y.nodes) false),(17,I y.nodes.length),(18,I a),(24,IS x.ex),(25,I x.ex.length),(26,I q.2.1)],(114,some (3, .mp q.2.2))::(101,some (1, .box [.sl (nds y.nodes) false, .sl (t3s y.devs) false]))::[],q.1⟩) (fun q=>q.2.1<=x.ex.length/\∀i,mget q.2.2 i=wts y.nodes [] i a+own1 (x.ex.take q.2.1) a i) (fun q=>x.ex.length - q.2.1) (_,0,es) ⟨Nat.zero_le _,fun i=>by simp only[List.take_zero];rw[hes i,own1];simp⟩ (uKF) ?_
  rintro⟨ck2,c,es2⟩ ⟨hc,hes2⟩
  simp only at hc hes2
  repeat refine uA ?_
  refine uW ?_;refine condP _ rfl (fun h2=>?_) (fun h2=>?_)
  ·have hlt2:c<x.ex.length:=by omega
   have htk:=take_getD (d:=0) hlt2
   have hO:∀i,own1 (x.ex.take (c+1)) a i=own1 (x.ex.take c) a i+if x.ex.getD c 0=i/\¬x.ex.getD c 0=a then 1 else 0:=fun i=>by rw[htk,own1_snoc]
   have hOl:∀i,own1 (x.ex.take c) a i<=c:=fun i=>by have:=own1_le (x.ex.take c) a i;rw[List.length_take] at this;omega
   have hOn:∀i,0<=own1 (x.ex.take c) a i:=fun i=>own1_nonneg _ _ _
   generalize e2:x.ex.getD c 0=e at*
   have hge:=hes2 e
   have:=hWl e
   have:=hWn e
   have:=hOl e
   have:=hOn e
   repeat refine uA1 (uI (ints_getD hlt2) @e2) ?_
   refine uW ?_;refine condP _ rfl (fun h3=>?_) (fun h3=>?_)
   ·repeat refine uA ?_
    refine⟨(_,c+1,mset es2 e (mget es2 e+1)),⟨by simp only;omega,fun i=>?_⟩,by simp only;omega,uKF⟩
    simp only
    rw[mget_mset,hO i,hes2 e,hes2 i]
    by_cases hi:i=e
    ·subst hi;rw[if_pos rfl,if_pos ⟨rfl,h3⟩];omega
    ·rw[if_neg hi,if_neg (fun h=>hi h.1.symm)];omega
   ·repeat refine uA ?_
    refine⟨(_,c+1,es2),⟨by simp only;omega,fun i=>?_⟩,by simp only;omega,uKF⟩
    simp only
    rw[hO i,hes2 i,if_neg (fun h=>h3 h.2)];omega
  ·refine awp_exit ?_
   repeat refine uA ?_
   refine⟨(_,a+1,es2),⟨by simp only;omega,fun i=>?_⟩,by simp only;omega,uKF⟩
   simp only
   rw[hW i,hes2 i,List.take_of_length_le (by omega)]
 ·refine awp_exit ?_
  obtain rfl:a=y.nodes.length:=by omega
  clear h ha
  repeat refine uA ?_
  refine uW ?_
  refine awp_loopW (fun q:Nat×Nat×List (Int×Int)×Nat×Nat=>⟨[(1, .ptO 101 1 0 0 0),(3, .mpO 114 3),(8, .slO 108 q.2.2.2.2 0 q.2.1),(9, .slO 142 q.2.2.2.1 0 y.nodes.length),(45,I y.nodes.length),(46,I q.2.1)],
   (142,some (q.2.2.2.1, .own 4 1 (bls (dl y.nodes.length (ordR y.nodes q.2.1)))))::(108,some (q.2.2.2.2, .own 3 1 (ints (ordR y.nodes q.2.1))))::(114,some (3, .mp q.2.2.1))::(101,some (1, .box [.sl (nds y.nodes) false, .sl (t3s y.devs) false]))::[],q.1⟩)
   (fun q=>q.2.1<=y.nodes.length/\(ordR y.nodes q.2.1).length=q.2.1/\∀i,mget q.2.2.1 i=wts y.nodes (ordR y.nodes q.2.1) i y.nodes.length) (fun q=>y.nodes.length - q.2.1) (_,0,es,ck+5,ck+1) ⟨Nat.zero_le _,rfl,hes⟩ (.of (Nat.le_refl _) (by repeat (first|exact HOk.nil|refine HOk.cons rfl ?_|refine HOk.gone ?_|refine HOk.opt rfl ?_|(refine HOk.cons ?_ ?_;(focus (simp only[go_sem,Nat.reduceAdd,Nat.reduceSub,Nat.reduceMul,Nat.reduceLT,Nat.reduceEqDiff,Nat.reduceBEq,Nat.reduceLeDiff,Int.reduceToNat,↓reduceIte,Int.reduceEq,Int.reduceLT,Int.reduceLE,Int.reduceAdd,Int.reduceSub,Int.reduceNeg,reduceCtorEq,ordR,<-dl_nil];done)))|(refine HOk.less rfl (ObW.ofBW ?_) ?_;(focus ((repeat (first|exact BW.nil|refine BW.same ?_|(refine BW.frz ?_ ?_ ?_ ?_;(focus (first|exact trivial|(simp only[go_sem,Nat.reduceAdd,Nat.reduceSub,Nat.reduceMul,Nat.reduceLT,Nat.reduceEqDiff,Nat.reduceBEq,Nat.reduceLeDiff,Int.reduceToNat,↓reduceIte,Int.reduceEq,Int.reduceLT,Int.reduceLE,Int.reduceAdd,Int.reduceSub,Int.reduceNeg,reduceCtorEq,ordR,<-dl_nil]<;>trivial)));(focus (first|rfl|((simp only[go_sem,Nat.reduceAdd,Nat.reduceSub,Nat.reduceMul,Nat.reduceLT,Nat.reduceEqDiff,Nat.reduceBEq,Nat.reduceLeDiff,Int.reduceToNat,↓reduceIte,Int.reduceEq,Int.reduceLT,Int.reduceLE,Int.reduceAdd,Int.reduceSub,Int.reduceNeg,reduceCtorEq,ordR,<-dl_nil]<;>rfl);done)));(focus (first|(simp only[go_sem,Nat.reduceAdd,Nat.reduceSub,Nat.reduceMul,Nat.reduceLT,Nat.reduceEqDiff,Nat.reduceBEq,Nat.reduceLeDiff,Int.reduceToNat,↓reduceIte,Int.reduceEq,Int.reduceLT,Int.reduceLE,Int.reduceAdd,Int.reduceSub,Int.reduceNeg,reduceCtorEq,ordR,<-dl_nil];done)|((simp only[go_sem,Nat.reduceAdd,Nat.reduceSub,Nat.reduceMul,Nat.reduceLT,Nat.reduceEqDiff,Nat.reduceBEq,Nat.reduceLeDiff,Int.reduceToNat,↓reduceIte,Int.reduceEq,Int.reduceLT,Int.reduceLE,Int.reduceAdd,Int.reduceSub,Int.reduceNeg,reduceCtorEq,ordR,<-dl_nil]<;>simp);done)|(simp;done)))))));done)))) uWF) ?_
  clear hes
  rintro⟨ck,n,es,g1,g2⟩ ⟨hn,hol,hes⟩
  simp only at hn hol hes
  have e1:ordR y.nodes (n+1)=_:=ordR.eq_2 y.nodes n
  have hst:nxt y.nodes (ordR y.nodes n)<0->order y.nodes=ordR y.nodes n:=fun h=>by
   have:=ordR_stop h (y.nodes.length - n)
   rw[show n+(y.nodes.length - n)=y.nodes.length by omega] at this
   exact this
  have hfin:n=y.nodes.length->order y.nodes=ordR y.nodes n:=fun h=>by rw[h];rfl
  generalize ordR y.nodes n=o at*
  repeat refine uA ?_
  refine uW ?_;refine condP _ rfl (fun h=>?_) (fun h=>?_)
  ·have hlt:n<y.nodes.length:=by omega
   refine uA ?_
   refine awp_seq ?_
   refine awp_merge (fun q:Nat=>⟨[(1, .ptO 101 1 0 0 0),(3, .mpO 114 3),(8, .slO 108 g2 0 n),(9, .slO 142 g1 0 y.nodes.length),(10,I (nxt y.nodes o)),(45,I y.nodes.length),(46,I n)],
    (142,some (g1, .own 4 1 (bls (dl y.nodes.length o))))::(108,some (g2, .own 3 1 (ints o)))::(114,some (3, .mp es))::(101,some (1, .box [.sl (nds y.nodes) false, .sl (t3s y.devs) false]))::[],q⟩) (fun _=>True) ?_ ?_
   ·repeat refine uA ?_
    refine uW ?_
    refine awp_loopW (fun q:Nat×Nat=>⟨[(1, .ptO 101 1 0 0 0),(3, .mpO 114 3),(8, .slO 108 g2 0 n),(9, .slO 142 g1 0 y.nodes.length),(10,I (-1)),(45,I y.nodes.length),(46,I n),(50,I y.nodes.length),(51,I q.2)],
     (142,some (g1, .own 4 1 (bls (dl y.nodes.length o))))::(108,some (g2, .own 3 1 (ints o)))::(114,some (3, .mp es))::(101,some (1, .box [.sl (nds y.nodes) false, .sl (t3s y.devs) false]))::[],q.1⟩) (fun q=>q.2<=y.nodes.length/\∀j,j<q.2->rdyK y.nodes o j y.nodes.length=false) (fun q=>y.nodes.length - q.2) (_,0) ⟨Nat.zero_le _,fun j hj=>absurd hj (Nat.not_lt_zero _)⟩ (uKF) ?_
    rintro⟨ck2,i⟩ ⟨hi,hj⟩
    simp only at hi hj
    repeat refine uA ?_
    refine uW ?_;refine condP _ rfl (fun h2=>?_) (fun h2=>?_)
    ·have hil:i<y.nodes.length:=by omega
     have hrd:=rdy_wts (xs:=y.nodes) (out:=o) (i:=i)
     have hfirst:rdyK y.nodes o i y.nodes.length=true->nxt y.nodes o=i:=fun h=>nxF_first hil h hj
     have hgood:rdyK y.nodes o i y.nodes.length=false->∀j,j<i+1->rdyK y.nodes o j y.nodes.length=false:=fun h j hj'=>by
      by_cases hji:j=i
      ·subst hji;exact h
      ·exact hj j (by omega)
     generalize rdyK y.nodes o i y.nodes.length=r at*
     rw[<-hes i] at hrd
     have hbl:i<(dl y.nodes.length o).length:=by rw[dl_len];exact hil
     have hdg:=dl_getD (o:=o) hil
     cases c1:decide ((i:Int)∈o) with
     |true=>
      rw[c1] at hrd hdg
      simp only[Bool.not_true,Bool.false_and] at hrd
      refine uA ?_
      repeat first|refine uC ?_|refine uA1 (uI (bls_getD hbl) (uI @hdg @dl_len)) ?_
      refine⟨(_,i+1),⟨by simp only;omega,hgood hrd⟩,by simp only;omega,uKF⟩
     |false=>
      rw[c1] at hrd hdg
      simp only[Bool.not_false,Bool.true_and] at hrd
      cases c2:decide (mget es i=0) with
      |true=>
       rw[c2] at hrd
       refine uA ?_
       repeat first|refine uC ?_|refine uA1 (uI (bls_getD hbl) (uI @hdg (uI @dl_len @c2))) ?_
       refine awp_exit ?_
       refine⟨_,trivial, .of (Nat.le_refl _) uHF (uWF1 (hfirst hrd))⟩
      |false=>
       rw[c2] at hrd
       refine uA ?_
       repeat first|refine uC ?_|refine uA1 (uI (bls_getD hbl) (uI @hdg (uI @dl_len @c2))) ?_
       refine⟨(_,i+1),⟨by simp only;omega,hgood hrd⟩,by simp only;omega,uKF⟩
    ·refine awp_exit ?_
     have hnone:nxt y.nodes o=-1:=nxF_none fun j hj'=>hj j (by omega)
     refine⟨_,trivial, .of (Nat.le_refl _) uHF (uWF1 @hnone)⟩
   rintro ck2 -
   repeat refine uA ?_
   refine uW ?_;refine condP _ rfl (fun h2=>?_) (fun h2=>?_)
   ·have e5:=hst h2
    refine awp_exit ?_
    repeat refine uA ?_
    (refine awp_ret (ret1 (uRT1 @hol) ?_);try rfl)
    first|refine uS1 (uI @hol @e5) ?_|exact uX1 (uI @hol @e5)
   ·rw[if_neg h2] at e1
    have hrd:rdyK y.nodes o (nxt y.nodes o).toNat y.nodes.length=true:=nxF_rdy _ (by show 0<=nxt y.nodes o;omega)
    have hlt2:nxt y.nodes o<max 1 (y.nodes.length:Int):=nxF_lt _
    obtain⟨m,hm⟩:∃m,m=(nxt y.nodes o).toNat:=⟨_,rfl⟩
    rw[<-hm] at hrd
    have hmm:nxt y.nodes o=(m:Int):=by omega
    rw[hmm] at e1
    have hmn:m<y.nodes.length:=by omega
    have hmo:¬(m:Int)∈o:=(rdyK_iff.1 hrd).1
    have hW:∀i,wts y.nodes (o++[(m:Int)]) i y.nodes.length=wts y.nodes o i y.nodes.length - own1 (y.nodes.getD m default).ex m i:=fun i=>by rw[wts_out hmo,if_pos hmn]
    have hWl:∀i,wts y.nodes o i y.nodes.length<=1000*y.nodes.length:=fun i=>wts_le hx _ (Nat.le_refl _)
    have hWn:∀i,0<=wts y.nodes o i y.nodes.length:=fun i=>wts_nonneg _ _ _ _
    have hxa:=hx m hmn
    have hdl:=dl_len y.nodes.length o
    have hds:=dl_snoc (N:=y.nodes.length) (m:=m) (o:=o)
    have hol2:(o++[(m:Int)]).length=n+1:=by simp[hol]
    generalize e3:y.nodes.getD m default=x at*
    repeat refine uA1 (uI @hmm (uI @hol (uI @dl_len (uI @hds (uI (nds_getD hmn) @e3))))) ?_
    refine uW ?_
    refine awp_loopW (fun q:Nat×Nat×List (Int×Int)×Nat=>⟨[(1, .ptO 101 1 0 0 0),(3, .mpO 114 3),(8, .slO 108 q.2.2.2 0 (n+1)),(9, .slO 142 g1 0 y.nodes.length),(10,I m),(45,I y.nodes.length),(46,I n),(81,IS x.ex),(82,I x.ex.length),(83,I q.2.1)],
     (142,some (g1, .own 4 1 (bls (dl y.nodes.length (o++[(m:Int)])))))::(108,some (q.2.2.2, .own 3 1 (ints (o++[(m:Int)]))))::(114,some (3, .mp q.2.2.1))::(101,some (1, .box [.sl (nds y.nodes) false, .sl (t3s y.devs) false]))::[],q.1⟩)
     (fun q=>q.2.1<=x.ex.length/\∀i,mget q.2.2.1 i=wts y.nodes o i y.nodes.length - own1 (x.ex.take q.2.1) m i) (fun q=>x.ex.length - q.2.1) (_,0,es,_) ⟨Nat.zero_le _,fun i=>by simp only[List.take_zero];rw[hes i,own1];simp⟩ (.of (Nat.le_refl _) (uHF1 @hol) (uWF1 @hol)) ?_
    rintro⟨ck3,c,es2,g3⟩ ⟨hc,hes2⟩
    simp only at hc hes2
    repeat refine uA ?_
    refine uW ?_;refine condP _ rfl (fun h5=>?_) (fun h5=>?_)
    ·have hlt3:c<x.ex.length:=by omega
     have htk:=take_getD (d:=0) hlt3
     have hO:∀i,own1 (x.ex.take (c+1)) m i=own1 (x.ex.take c) m i+if x.ex.getD c 0=i/\¬x.ex.getD c 0=m then 1 else 0:=fun i=>by rw[htk,own1_snoc]
     have hOl:∀i,own1 (x.ex.take c) m i<=c:=fun i=>by have:=own1_le (x.ex.take c) m i;rw[List.length_take] at this;omega
     have hOn:∀i,0<=own1 (x.ex.take c) m i:=fun i=>own1_nonneg _ _ _
     generalize e6:x.ex.getD c 0=e at*
     have hge:=hes2 e
     have:=hWl e
     have:=hWn e
     have:=hOl e
     have:=hOn e
     repeat refine uA1 (uI (ints_getD hlt3) @e6) ?_
     refine uW ?_;refine condP _ rfl (fun h6=>?_) (fun h6=>?_)
     ·repeat refine uA ?_
      refine⟨(_,c+1,mset es2 e (mget es2 e - 1),_),⟨by simp only;omega,fun i=>?_⟩,by simp only;omega,uKF⟩
      simp only
      rw[mget_mset,hO i,hes2 e,hes2 i]
      by_cases hi:i=e
      ·subst hi;rw[if_pos rfl,if_pos ⟨rfl,h6⟩];omega
      ·rw[if_neg hi,if_neg (fun h=>hi h.1.symm)];omega
     ·repeat refine uA ?_
      refine⟨(_,c+1,es2,_),⟨by simp only;omega,fun i=>?_⟩,by simp only;omega,uKF⟩
      simp only
      rw[hO i,hes2 i,if_neg (fun h=>h6 h.2)];omega
    ·refine awp_exit ?_
     repeat refine uA ?_
     refine⟨(_,n+1,es2,g1,g3),⟨by simp only;omega,by simp only;rw[e1];exact hol2,fun i=>?_⟩,by simp only;omega, .of (Nat.le_refl _) (uHF1 @e1) uWF⟩
     simp only
     rw[e1,hW i,hes2 i,List.take_of_length_le (by omega)]
  ·refine awp_exit ?_
   have e4:=hfin (by omega)
   repeat refine uA ?_
   (refine awp_ret (ret1 (uRT1 @hol) ?_);try rfl)
   first|refine uS1 (uI @hol @e4) ?_|exact uX1 (uI @hol @e4)
def zoneOf (A n:Nat) (e:Int):Int:=if e<=A\/e=(n:Int) - 2 then 0 else 1
def EX (A n i:Nat) (z:Int) (e:Int):Prop:=(i:Int)<e/\e<n/\zoneOf A n e=z
structure Shape (A n i:Nat) (x:Nd):Prop where
 kd:1<=x.kd/\x.kd<=9
 k1:x.kd=1↔i=0
 k6:x.kd=6->i=A
 k8:8<=x.kd->A<i
 zn:x.zn=zoneOf A n i
 z0:x.kd=1\/x.kd=3\/x.kd=6->x.zn=0
 z1:x.kd=7\/x.kd=8->x.zn=1
 ln:x.kd<=6->1<=x.ln/\x.ln<=4
 l5:x.kd=5->2<=x.ln
 l0:7<=x.kd->x.ln=0
 ex:(8<=x.kd/\x.ex=[])\/((x.kd=1\/x.kd=2\/x.kd=3\/x.kd=7)/\∃e,x.ex=[e]/\EX A n i x.zn e)\/
  (x.kd=4/\∃e f,x.ex=[e,f]/\e≠f/\EX A n i x.zn e/\EX A n i x.zn f)\/
  (x.kd=5/\∃f,x.ex=[(i:Int),f]/\EX A n i x.zn f)\/
  (x.kd=6/\∃e f,x.ex=[e,f]/\e≠f/\EX A n i 0 e/\EX A n i 1 f)
theorem gO_cases {l:List Int} {a:Nat} {es:List Int} {x:Int}:((gO l a es x).1=-1/\rest es x=[])\/((gO l a es x).1∈es/\(gO l a es x).1≠x):=by
 unfold gO
 split
 ·next h=>exact .inl ⟨rfl,h⟩
 ·next h=>
  refine .inr ?_
  have hl:0<(rest es x).length:=List.length_pos_iff.mpr h
  have hb:=gN_lt (l:=l) (a:=a) (n:=((rest es x).length:Int)) (by omega)
  have hm:=getD_memI (l:=rest es x) (n:=(gN l a (rest es x).length).toNat) (by omega)
  simp only
  rw[rest,List.mem_filter] at hm
  exact⟨hm.1,of_decide_eq_true hm.2⟩
theorem gP_mem {l:List Int} {a:Nat} {es:List Int} (h:es≠[]):gP l a es∈es:=by
 have hl:0<es.length:=List.length_pos_iff.mpr h
 have hb:=gN_lt (l:=l) (a:=a) (n:=(es.length:Int)) (by omega)
 exact getD_memI (by omega)
theorem rest_ne {es:List Int} {x:Int} (h:es≠[]) (hx:x∉es):rest es x≠[]:=by
 obtain⟨y,hy⟩:=List.exists_mem_of_ne_nil es h
 intro h0
 have:y∈rest es x:=by rw[rest,List.mem_filter];exact⟨hy,by simp;intro h;exact hx (h ▸ hy)⟩
 rw[h0] at this
 cases this
theorem gS_shape {l:List Int} {a:Nat} {i z:Int} {kinds to:List Int} (hk:kinds≠[]) (ht:to≠[]) (P:Int->Prop) (hP:∀e∈to,P e/\0<=e):
  ((gS l a i z kinds to).1.kd∈kinds\/((gS l a i z kinds to).1.kd=2/\4∈kinds))/\(gS l a i z kinds to).1.zn=z/\(1<=(gS l a i z kinds to).1.ln/\(gS l a i z kinds to).1.ln<=4)/\((gS l a i z kinds to).1.kd=5->2<=(gS l a i z kinds to).1.ln)/\
  (((gS l a i z kinds to).1.kd=5/\∃f,(gS l a i z kinds to).1.ex=[i,f]/\P f)\/((gS l a i z kinds to).1.kd=4/\∃e f,(gS l a i z kinds to).1.ex=[e,f]/\e≠f/\P e/\P f)\/
   ((gS l a i z kinds to).1.kd≠4/\(gS l a i z kinds to).1.kd≠5/\∃e,(gS l a i z kinds to).1.ex=[e]/\P e)):=by
 have hm1:(-1:Int)∉to:=fun h=>by have:=(hP _ h).2;omega
 have hkm:=gP_mem (l:=l) (a:=a) hk
 have hln:=gR_lt (l:=l) (a:=a+1) (lo:=1) (hi:=3) (by omega)
 have hf:P (gO l (a+2) to (-1)).1:=by
  rcases gO_cases (l:=l) (a:=a+2) (es:=to) (x:=-1) with ⟨_,h⟩|⟨h,_⟩
  ·exact absurd h (rest_ne ht hm1)
  ·exact(hP _ h).1
 unfold gS
 simp only
 split
 ·next h5=>
  refine⟨.inl hkm,rfl,?_,?_, .inl ⟨h5,_,rfl,hf⟩⟩
  ·simp only;omega
  ·simp only;omega
 ·next h5=>
  split
  ·next h4=>
   rcases gO_cases (l:=l) (a:=(gO l (a+2) to (-1)).2) (es:=to) (x:=(gO l (a+2) to (-1)).1) with ⟨h,_⟩|⟨h,hne⟩
   ·rw[if_pos (by omega)]
    exact⟨.inr ⟨rfl,h4 ▸ hkm⟩,rfl,by simp only;omega,fun h=>by simp at h, .inr (.inr ⟨show(2:Int)≠4 by decide,show(2:Int)≠5 by decide,_,rfl,hf⟩)⟩
   ·have:=(hP _ h)
    rw[if_neg (by omega)]
    exact⟨.inl hkm,rfl,by simp only;omega,fun h=>absurd h h5, .inr (.inl ⟨h4,_,_,rfl,fun h=>hne h.symm,hf,this.1⟩)⟩
  ·next h4=>exact⟨.inl hkm,rfl,by simp only;omega,fun h=>absurd h h5, .inr (.inr ⟨h4,h5,_,rfl,hf⟩)⟩
theorem upI_mem {lo:Nat} {e:Int}:∀{k:Nat},e∈upI lo k->(lo:Int)<=e/\e<lo+k
 |0,h=>by simp[upI] at h
 |k+1,h=>by
  rw[upI,List.mem_append,List.mem_singleton] at h
  rcases h with h|h
  ·have:=upI_mem h;omega
  ·omega
structure Sz (A B n:Nat):Prop where
 a:1<=A/\A<=3
 b:B<=3
 n:A+1+B+1+2<=n/\n<=A+1+B+2+2
theorem zeroI_ex {A B n i:Nat} (h:Sz A B n) (hi:i<=A):∀e∈zeroI A n i,EX A n i 0 e/\0<=e:=by
 obtain⟨h1,h2,h3⟩:=h
 intro e he
 rw[zeroI,List.mem_append,List.mem_singleton] at he
 unfold EX zoneOf
 rcases he with he|he
 ·have:=upI_mem he
  rw[if_pos (by omega)]
  omega
 ·rw[if_pos (by omega)]
  omega
theorem oneI_ex {A B n i:Nat} (h:Sz A B n) (hi:i<A+1+B):∀e∈oneI A n i,EX A n i 1 e/\0<=e:=by
 obtain⟨h1,h2,h3⟩:=h
 intro e he
 rw[oneI,List.mem_append,List.mem_singleton] at he
 unfold EX zoneOf
 rcases he with he|he
 ·have:=upI_mem he
  rw[if_neg (by omega)]
  omega
 ·rw[if_neg (by omega)]
  omega
theorem oneI_ne {A n i:Nat}:oneI A n i≠[]:=by simp[oneI]
theorem zeroI_ne {A n i:Nat}:zeroI A n i≠[]:=by simp[zeroI]
theorem lyX_shape {l:List Int} {A B n i a:Nat} (h:Sz A B n) (hi:i<n) (nm:ByteArray):Shape A n i {(lyX l A B n i a).1 with nm:=nm}:=by
 obtain⟨h1,h2,h3⟩:=h
 have hz:=zeroI_ex (i:=i) ⟨h1,h2,h3⟩
 have ho:=oneI_ex (i:=i) ⟨h1,h2,h3⟩
 unfold lyX
 by_cases c0:i=0
 ·rw[if_pos c0]
  obtain⟨g1,g2,g3,g4,g5⟩:=gS_shape (l:=l) (a:=a) (i:=(i:Int)) (z:=0) (kinds:=[1]) (by simp) zeroI_ne (EX A n i 0) (hz (by omega))
  generalize (gS l a i 0 [1] (zeroI A n i)).1=x at*
  have hkd:x.kd=1:=by
   rcases g1 with g1|⟨_,g1⟩
   ·simpa using g1
   ·simp at g1
  refine⟨by simp only;omega,by simp only;omega,by simp only;omega,by simp only;omega,?_,fun _=>g2,by simp only;omega,fun _=>g3,by simp only;omega,by simp only;omega, .inr (.inl ⟨.inl hkd,?_⟩)⟩
  ·simp only;rw[g2,zoneOf,if_pos (by omega)]
  ·simp only
   rw[g2]
   rcases g5 with ⟨g,_⟩|⟨g,_⟩|⟨_,_,g⟩
   ·omega
   ·omega
   ·exact g
 rw[if_neg c0]
 by_cases c1:i<A
 ·rw[if_pos c1]
  obtain⟨g1,g2,g3,g4,g5⟩:=gS_shape (l:=l) (a:=a) (i:=(i:Int)) (z:=0) (kinds:=[2,3,4,5,3]) (by simp) zeroI_ne (EX A n i 0) (hz (by omega))
  generalize (gS l a i 0 [2,3,4,5,3] (zeroI A n i)).1=x at*
  have hkd:x.kd=2\/x.kd=3\/x.kd=4\/x.kd=5:=by
   rcases g1 with g1|⟨g1,_⟩
   ·simp at g1;omega
   ·exact .inl g1
  refine⟨by simp only;omega,by simp only;omega,by simp only;omega,by simp only;omega,?_,fun _=>g2,by simp only;omega,fun _=>g3,g4,by simp only;omega,?_⟩
  ·simp only;rw[g2,zoneOf,if_pos (by omega)]
  ·simp only
   rw[g2]
   rcases g5 with ⟨g,g'⟩|⟨g,g'⟩|⟨g,g'',g'⟩
   ·exact .inr (.inr (.inr (.inl ⟨g,g'⟩)))
   ·exact .inr (.inr (.inl ⟨g,g'⟩))
   ·exact .inr (.inl ⟨by omega,g'⟩)
 rw[if_neg c1]
 by_cases c2:i=A
 ·rw[if_pos c2]
  have hg:=gP_mem (l:=l) (a:=a+1) (oneI_ne (A:=A) (n:=n) (i:=i))
  have he:=(ho (by omega) _ hg).1
  have hr:=gR_lt (l:=l) (a:=a) (lo:=1) (hi:=3) (by omega)
  refine⟨by simp only;omega,by simp only;omega,fun _=>c2,by simp only;omega,?_,fun _=>rfl,by simp only;omega,fun _=>by simp only;omega,by simp only;omega,by simp only;omega, .inr (.inr (.inr (.inr ⟨rfl,_,_,rfl,?_,?_,he⟩)))⟩
  ·simp only;rw[zoneOf,if_pos (by omega)]
  ·intro h
   rw[<-h] at he
   have:=he.2.2
   rw[zoneOf,if_pos (by omega)] at this
   omega
  ·unfold EX zoneOf
   rw[if_pos (by omega)]
   omega
 rw[if_neg c2]
 by_cases c3:i<A+1+B
 ·rw[if_pos c3]
  obtain⟨g1,g2,g3,g4,g5⟩:=gS_shape (l:=l) (a:=a) (i:=(i:Int)) (z:=1) (kinds:=[2,4,5,7]) (by simp) oneI_ne (EX A n i 1) (ho c3)
  simp only
  generalize (gS l a i 1 [2,4,5,7] (oneI A n i))=x at*
  have hkd:x.1.kd=2\/x.1.kd=4\/x.1.kd=5\/x.1.kd=7:=by
   rcases g1 with g1|⟨g1,_⟩
   ·simp at g1;omega
   ·exact .inl g1
  have hzn:x.1.zn=zoneOf A n i:=by rw[g2,zoneOf,if_neg (by omega)]
  split
  ·next h7=>
   refine⟨by simp only;omega,by simp only;omega,by simp only;omega,by simp only;omega,hzn,by simp only;omega,fun _=>g2,by simp only;omega,by simp only;omega,fun _=>rfl,?_⟩
   simp only
   rw[g2]
   rcases g5 with ⟨g,g'⟩|⟨g,g'⟩|⟨g,g'',g'⟩
   ·omega
   ·omega
   ·exact .inr (.inl ⟨by omega,g'⟩)
  ·next h7=>
   refine⟨by simp only;omega,by simp only;omega,by simp only;omega,by simp only;omega,hzn,by simp only;omega,fun _=>g2,fun _=>g3,g4,by simp only;omega,?_⟩
   simp only
   rw[g2]
   rcases g5 with ⟨g,g'⟩|⟨g,g'⟩|⟨g,g'',g'⟩
   ·exact .inr (.inr (.inr (.inl ⟨g,g'⟩)))
   ·exact .inr (.inr (.inl ⟨g,g'⟩))
   ·exact .inr (.inl ⟨by omega,g'⟩)
 rw[if_neg c3]
 by_cases c4:i<n - 2
 ·rw[if_pos c4]
  refine⟨by simp only;omega,by simp only;omega,by simp only;omega,by simp only;omega,?_,by simp only;omega,fun _=>rfl,by simp only;omega,by simp only;omega,fun _=>rfl, .inl ⟨by simp only;omega,rfl⟩⟩
  simp only;rw[zoneOf,if_neg (by omega)]
 ·rw[if_neg c4]
  refine⟨by simp only;omega,by simp only;omega,by simp only;omega,by simp only;omega,?_,by simp only;omega,by simp only;omega,by simp only;omega,by simp only;omega,fun _=>rfl, .inl ⟨by simp only;omega,rfl⟩⟩
  simp only
  unfold zoneOf
  split<;>omega
theorem fixN_shape {A B n k:Nat} {x:Nd} (h:Sz A B n) (hk:k<A) (hs:Shape A n k x):Shape A n k (fixN k x):=by
 obtain⟨h1,h2,h3⟩:=h
 unfold fixN
 split
 ·next hc=>
  obtain⟨hc,hm⟩:=hc
  have hz:x.zn=0:=by rw[hs.zn,zoneOf,if_pos (by omega)]
  have hx:EX A n k x.zn ((k+1:Nat):Int):=by
   unfold EX
   rw[hz,zoneOf,if_pos (by omega)]
   omega
  refine⟨hs.kd,hs.k1,hs.k6,hs.k8,hs.zn,hs.z0,hs.z1,hs.ln,hs.l5,hs.l0,?_⟩
  rcases hs.ex with ⟨g,g'⟩|⟨g,e,g',_⟩|⟨g,e,f,g',hne,he,hf⟩|⟨g,_⟩|⟨g,_⟩
  ·have:=hs.k8 g
   omega
  ·refine .inr (.inl ⟨g,_,?_,hx⟩)
   simp only[fixX,g']
   rfl
  ·refine .inr (.inr (.inl ⟨g,_,f,?_,?_,hx,hf⟩))
   ·simp only[fixX,g']
    rfl
   ·intro h
    rw[g'] at hm
    exact hm (by rw[h];simp)
  ·exact absurd g hc
  ·have:=hs.k6 g
   omega
 ·exact hs
structure Good (A n:Nat) (y:Ly):Prop where
 sz:∃B,Sz A B n
 len:y.nodes.length=n
 shp:∀i,i<n->Shape A n i (y.nodes.getD i default)
 nm:∀i,i<n->(y.nodes.getD i default).nm=nmI i
theorem Good.n11 {A n:Nat} {y:Ly} (h:Good A n y):5<=n/\n<=11/\1<=A/\A<=3/\A+3<n:=by
 obtain⟨⟨B,⟨h1,h2⟩,h3,h4,h5⟩,_,_,_⟩:=h
 omega
theorem gL_nodes (l:List Int) (a:Nat):∃A n,Good A n (gL l a).1:=by
 have hA:=gR_lt (l:=l) (a:=a) (lo:=1) (hi:=3) (by omega)
 have hB:=gR_lt (l:=l) (a:=a+1) (lo:=0) (hi:=3) (by omega)
 have hC:=gR_lt (l:=l) (a:=a+2) (lo:=1) (hi:=2) (by omega)
 unfold gL
 simp only
 obtain⟨A,eA⟩:∃A,A=(gR l a 1 3).toNat:=⟨_,rfl⟩
 obtain⟨B,eB⟩:∃B,B=(gR l (a+1) 0 3).toNat:=⟨_,rfl⟩
 obtain⟨n,en⟩:∃n,n=A+1+B+(gR l (a+2) 1 2).toNat+2:=⟨_,rfl⟩
 rw[<-eA,<-eB,<-en]
 have hs:Sz A B n:=⟨by omega,by omega,by omega⟩
 refine⟨A,n,⟨B,hs⟩,?_,?_,?_⟩
 ·simp only
  split
  ·rw[fixL_length,lyL_length]
  ·rw[lyL_length]
 ·intro i hi
  have h1:Shape A n i ((lyL l A B n (a+3) n).1.getD i default):=by
   rw[lyL_getD n hi];exact lyX_shape hs hi _
  simp only
  split
  ·rw[fixL_getD (by rw[lyL_length];exact hi)]
   split
   ·exact fixN_shape hs (by assumption) h1
   ·exact h1
  ·exact h1
 ·intro i hi
  have h1:((lyL l A B n (a+3) n).1.getD i default).nm=nmI i:=by rw[lyL_getD n hi]
  simp only
  split
  ·rw[fixL_getD (by rw[lyL_length];exact hi)]
   split
   ·rw[fixN_ln.2.2.2];exact h1
   ·exact h1
  ·exact h1
def dlt (d e:T3):Prop:=d.b<e.b\/(d.b=e.b/\(d.c<e.c\/(d.c=e.c/\e.a<d.a)))
def DvI (xs:List Nd) (i w:Nat) (o:List T3):Prop:=
 o.Pairwise dlt/\∀d∈o,(d.a=1\/d.a=2)/\0<=d.b/\d.b<xs.length/\0<=d.c/\d.c<(xs.getD d.b.toNat default).ln/\(d.b<i\/(d.b=i/\d.c<w))
theorem dvW_inv {l:List Int} {xs:List Nd} {i:Nat} {o:List T3×Nat} (hi:i<xs.length) (h:DvI xs i 0 o.1):∀w,w<=(xs.getD i default).ln.toNat->DvI xs i w (dvW l (xs.getD i default) i o w).1
 |0,_=>h
 |w+1,hw=>by
  obtain⟨h1,h2⟩:=dvW_inv (l:=l) hi h w (by omega)
  rw[dvW]
  generalize dvW l (xs.getD i default) i o w=r at*
  have h3:(dv1 l (xs.getD i default) i w r).1.Pairwise dlt/\∀d∈(dv1 l (xs.getD i default) i w r).1,(d.a=1\/d.a=2)/\0<=d.b/\d.b<xs.length/\0<=d.c/\d.c<(xs.getD d.b.toNat default).ln/\(d.b<i\/(d.b=i/\(d.c<w\/(d.c=w/\d.a=2)))):=by
   have h2':∀d∈r.1,(d.a=1\/d.a=2)/\0<=d.b/\d.b<xs.length/\0<=d.c/\d.c<(xs.getD d.b.toNat default).ln/\(d.b<i\/(d.b=i/\(d.c<w\/(d.c=w/\d.a=2)))):=fun d hd=>by
    obtain⟨g1,g2,g3,g4,g5,g6⟩:=h2 d hd
    exact⟨g1,g2,g3,g4,g5,by omega⟩
   unfold dv1
   split
   ·split
    ·refine⟨List.pairwise_append.2 ⟨h1,by simp,fun d hd e he=>?_⟩,fun d hd=>?_⟩
     ·rw[List.mem_singleton] at he
      subst he
      obtain⟨g1,g2,g3,g4,g5,g6⟩:=h2 d hd
      unfold dlt
      simp only
      omega
     ·rcases List.mem_append.1 hd with hd|hd
      ·exact h2' d hd
      ·rw[List.mem_singleton] at hd
       subst hd
       simp only[Int.toNat_natCast]
       exact⟨.inr trivial,by omega,by omega,by omega,by omega, .inr ⟨trivial, .inr ⟨trivial,trivial⟩⟩⟩
    ·exact⟨h1,h2'⟩
   ·exact⟨h1,h2'⟩
  obtain⟨h4,h5⟩:=h3
  generalize dv1 l (xs.getD i default) i w r=s at*
  have h5':∀d∈s.1,(d.a=1\/d.a=2)/\0<=d.b/\d.b<xs.length/\0<=d.c/\d.c<(xs.getD d.b.toNat default).ln/\(d.b<i\/(d.b=i/\d.c<(w+1:Nat))):=fun d hd=>by
   obtain⟨g1,g2,g3,g4,g5,g6⟩:=h5 d hd
   exact⟨g1,g2,g3,g4,g5,by omega⟩
  unfold dv2
  split
  ·split
   ·refine⟨List.pairwise_append.2 ⟨h4,by simp,fun d hd e he=>?_⟩,fun d hd=>?_⟩
    ·rw[List.mem_singleton] at he
     subst he
     obtain⟨g1,g2,g3,g4,g5,g6⟩:=h5 d hd
     unfold dlt
     simp only
     omega
    ·rcases List.mem_append.1 hd with hd|hd
     ·exact h5' d hd
     ·rw[List.mem_singleton] at hd
      subst hd
      simp only[Int.toNat_natCast]
      exact⟨.inl trivial,by omega,by omega,by omega,by omega, .inr ⟨trivial,by omega⟩⟩
   ·exact⟨h4,h5'⟩
  ·exact⟨h4,h5'⟩
theorem dvN_inv {l:List Int} {xs:List Nd} {a:Nat} (hx:∀i,i<xs.length->0<=(xs.getD i default).ln):∀i,i<=xs.length->DvI xs i 0 (dvN l xs a i).1
 |0,_=>⟨by simp[dvN],by simp[dvN]⟩
 |i+1,hi=>by
  obtain⟨h1,h2⟩:=dvW_inv (l:=l) (by omega) (dvN_inv hx i (by omega)) _ (Nat.le_refl _)
  refine⟨h1,fun d hd=>?_⟩
  obtain⟨g1,g2,g3,g4,g5,g6⟩:=h2 d hd
  exact⟨g1,g2,g3,g4,g5,by omega⟩
theorem pw_getD {α:Type} {R:α->α->Prop} {l:List α} {d:α} (h:l.Pairwise R) {i j:Nat} (hij:i<j) (hj:j<l.length):R (l.getD i d) (l.getD j d):=by
 have:=List.pairwise_iff_getElem.1 h i j (by omega) hj hij
 simpa[hj,show i<l.length by omega] using this
theorem devE_zero {l:List Int} {xs:List Nd} {a:Nat} (hx:∀i,i<xs.length->0<=(xs.getD i default).ln):devE xs (gD l a xs).1=0:=by
 obtain⟨h1,h2⟩:=dvN_inv (l:=l) (a:=a) hx _ (Nat.le_refl _)
 rw[devE_ok fun j hj=>?_]
 ·rw[if_pos]
  refine range_all_true fun i hi=>?_
  rw[dupK,Bool.not_eq_true',List.any_eq_false]
  intro z hz hez
  rw[eqT_iff] at hez
  obtain⟨j,hj,e⟩:=List.getElem_of_mem hz
  have hji:j<i:=by rw[List.length_take] at hj;omega
  have h3:=pw_getD (d:=default) h1 hji hi
  have h4:(dvN l xs a xs.length).1.getD j default=z:=by
   rw[<-e,List.getElem_take]
   have hjl:j<(dvN l xs a xs.length).1.length:=Nat.lt_trans hji hi
   simp[hjl]
   rfl
  rw[h4,show(dvN l xs a xs.length).1.getD i default=z from hez] at h3
  unfold dlt at h3
  omega
 ·have h3:=h2 _ (mem_getD (d:=default) hj)
  show devOne xs ((dvN l xs a xs.length).1.getD j default)=0
  generalize (dvN l xs a xs.length).1.getD j default=d at*
  unfold devOne
  rw[if_neg (by omega),if_neg (by omega)]
theorem nmI_ok:∀i,i<11->nameOk (nmI i)=true:=by decide+kernel
theorem nmI_inj:∀i,i<11->∀j,j<11->nmI i=nmI j->i=j:=by decide+kernel
theorem named_good {A n:Nat} {y:Ly} (h:Good A n y):namedB y.nodes=true:=by
 have hn:=h.n11
 refine range_all_true fun i hi=>?_
 rw[h.len] at hi
 have hN:=h.len
 rw[decide_eq_true_eq,findN_idx]
 refine fi_some (d:=default) (by omega) (fun j hj=>?_) (by simp)
 rw[h.nm i hi,h.nm j (by omega),decide_eq_false_iff_not]
 intro h2
 have:=nmI_inj j (by omega) i (by omega) h2
 omega
theorem Good.ex {A n:Nat} {y:Ly} (h:Good A n y):ExOk y.nodes:=by
 intro i hi j hj
 rw[h.len] at hi ⊢
 have hn:=h.n11
 rcases(h.shp i hi).ex with ⟨_,g⟩|⟨_,e,g,he⟩|⟨_,e,f,g,_,he,hf⟩|⟨_,f,g,hf⟩|⟨_,e,f,g,_,he,hf⟩
 ·rw[g] at hj;simp at hj
 ·rw[g] at hj ⊢
  obtain rfl:j=0:=by simpa using hj
  obtain⟨h1,h2,_⟩:=he
  simp;omega
 ·rw[g] at hj ⊢
  obtain⟨h1,h2,_⟩:=he
  obtain⟨h3,h4,_⟩:=hf
  have:j=0\/j=1:=by simp at hj;omega
  rcases this with rfl|rfl<;>simp<;>omega
 ·rw[g] at hj ⊢
  obtain⟨h3,h4,_⟩:=hf
  have:j=0\/j=1:=by simp at hj;omega
  rcases this with rfl|rfl<;>simp<;>omega
 ·rw[g] at hj ⊢
  obtain⟨h1,h2,_⟩:=he
  obtain⟨h3,h4,_⟩:=hf
  have:j=0\/j=1:=by simp at hj;omega
  rcases this with rfl|rfl<;>simp<;>omega
theorem Good.node {A n:Nat} {y:Ly} (h:Good A n y) {i:Nat} (hi:i<n):nodeE n i (y.nodes.getD i default)=0:=by
 have hn:=h.n11
 have hs:=h.shp i hi
 have hm:=h.nm i hi
 generalize y.nodes.getD i default=x at*
 obtain⟨kd1,kd2⟩:=hs.kd
 have hz:x.zn=0\/x.zn=1:=by rw[hs.zn,zoneOf];split<;>simp
 have hl:lenOk x=true:=by
  have hln:=hs.ln
  have hl5:=hs.l5
  have hl0:=hs.l0
  unfold lenOk isStrip
  by_cases h6:x.kd<=6
  ·rw[if_pos (by simp;omega)]
   split
   ·simp;omega
   ·simp;omega
  ·rw[if_neg (by simp;omega)]
   simp;omega
 suffices hlead:leadP n i x=true by rw[nodeE,if_neg (by rw[hm,nmI_ok i (by omega)];decide),if_neg (by omega),if_pos ⟨hl,hz,hlead⟩]
 rw[leadP_true]
 have hb:∀b:Bool,(false==b)=!b:=by decide
 rcases hs.ex with ⟨k,g⟩|⟨k,e,g,he⟩|⟨k,e,f,g,hne,he,hf⟩|⟨k,f,g,hf⟩|⟨k,e,f,g,hne,he,hf⟩
 ·rw[g]
  refine⟨?_,fun j hj=>by simp at hj⟩
  rw[exitsN,if_neg (by omega),if_pos (by omega)];rfl
 ·refine⟨by rw[g,exitsN,if_neg (by omega),if_neg (by omega)];rfl,fun j hj=>?_⟩
  rw[g] at hj
  obtain rfl:j=0:=by simpa using hj
  obtain⟨h1,h2,_⟩:=he
  rw[leadK,g]
  simp
  refine⟨by omega,h2,by omega,by omega⟩
 ·refine⟨by rw[g,exitsN,if_pos (by omega)];rfl,fun j hj=>?_⟩
  rw[g] at hj
  obtain⟨h1,h2,_⟩:=he
  obtain⟨h3,h4,_⟩:=hf
  have:j=0\/j=1:=by simp at hj;omega
  rcases this with rfl|rfl
  ·rw[leadK,g]
   simp
   refine⟨by omega,h2,by omega,by omega⟩
  ·rw[leadK,g]
   simp
   refine⟨by omega,h4,by omega,fun h=>hne h.symm⟩
 ·refine⟨by rw[g,exitsN,if_pos (by omega)];rfl,fun j hj=>?_⟩
  rw[g] at hj
  obtain⟨h3,h4,_⟩:=hf
  have:j=0\/j=1:=by simp at hj;omega
  rcases this with rfl|rfl
  ·rw[leadK,g]
   simp[k]
   omega
  ·rw[leadK,g]
   simp
   omega
 ·refine⟨by rw[g,exitsN,if_pos (by omega)];rfl,fun j hj=>?_⟩
  rw[g] at hj
  obtain⟨h1,h2,_⟩:=he
  obtain⟨h3,h4,_⟩:=hf
  have:j=0\/j=1:=by simp at hj;omega
  rcases this with rfl|rfl
  ·rw[leadK,g]
   simp
   refine⟨by omega,h2,by omega,by omega⟩
  ·rw[leadK,g]
   simp
   refine⟨by omega,h4,by omega,fun h=>hne h.symm⟩
theorem Good.tot {A n:Nat} {y:Ly} (h:Good A n y):0<=total y.nodes/\total y.nodes<=44:=by
 have hn:=h.n11
 have:∀i,i<=n->0<=totL y.nodes i/\totL y.nodes i<=4*i:=by
  intro i
  induction i with
  |zero=>intro _;simp[totL]
  |succ i ih=>
   intro hi
   have h1:=ih (by omega)
   have hs:=h.shp i (by omega)
   have h2:=hs.ln
   have h3:=hs.l0
   have h4:=hs.kd
   rw[totL]
   omega
 have:=this n (Nat.le_refl _)
 unfold total
 rw[h.len]
 omega
theorem Good.zoned {A n:Nat} {y:Ly} (h:Good A n y) {i:Nat} (hi:i<n):zoneB y.nodes (y.nodes.getD i default)=true:=by
 have hn:=h.n11
 have hs:=h.shp i hi
 have hto:∀z e,EX A n i z e->¬(y.nodes.getD e.toNat default).kd=1/\(y.nodes.getD e.toNat default).zn=z:=by
  intro z e ⟨h1,h2,h3⟩
  obtain⟨m,rfl⟩:∃m:Nat,e=m:=⟨e.toNat,by omega⟩
  have ht:=h.shp m (by omega)
  rw[Int.toNat_natCast]
  exact⟨fun hk=>by have:=ht.k1.1 hk;omega,by rw[ht.zn,h3]⟩
 have hself:=h.shp i hi
 generalize hx:y.nodes.getD i default=x at*
 rw[zoneB,Bool.and_eq_true]
 refine⟨?_,range_all_true fun j hj=>?_⟩
 ·have h0:=hs.z0
  have h1:=hs.z1
  unfold zoneA
  split
  ·exact decide_eq_true (h0 (by assumption))
  ·split
   ·exact decide_eq_true (h1 (by assumption))
   ·rfl
 ·have key:∀e,x.ex.getD j 0=e->¬(y.nodes.getD e.toNat default).kd=1->(y.nodes.getD e.toNat default).zn=zoneW x j->zoneK y.nodes x j=true:=by
   intro e he h1 h2
   rw[zoneK,he,decide_eq_false h1,h2]
   simp
  rcases hs.ex with ⟨k,g⟩|⟨k,e,g,he⟩|⟨k,e,f,g,hne,he,hf⟩|⟨k,f,g,hf⟩|⟨k,e,f,g,hne,he,hf⟩
  ·rw[g] at hj;simp at hj
  ·rw[g] at hj
   obtain rfl:j=0:=by simpa using hj
   have:=hto _ _ he
   exact key e (by rw[g];rfl) this.1 (by rw[this.2,zoneW,if_neg (by omega)])
  ·rw[g] at hj
   have h3:=hto _ _ he
   have h4:=hto _ _ hf
   have:j=0\/j=1:=by simp at hj;omega
   rcases this with rfl|rfl
   ·exact key e (by rw[g];rfl) h3.1 (by rw[h3.2,zoneW,if_neg (by omega)])
   ·exact key f (by rw[g];rfl) h4.1 (by rw[h4.2,zoneW,if_neg (by omega)])
  ·rw[g] at hj
   have h4:=hto _ _ hf
   have:j=0\/j=1:=by simp at hj;omega
   rcases this with rfl|rfl
   ·refine key i (by rw[g];rfl) ?_ ?_
    ·rw[Int.toNat_natCast,hx];omega
    ·rw[Int.toNat_natCast,hx,zoneW,if_neg (by omega)]
   ·exact key f (by rw[g];rfl) h4.1 (by rw[h4.2,zoneW,if_neg (by omega)])
  ·rw[g] at hj
   have h3:=hto _ _ he
   have h4:=hto _ _ hf
   have hz:=hs.z0 (by omega)
   have:j=0\/j=1:=by simp at hj;omega
   rcases this with rfl|rfl
   ·exact key e (by rw[g];rfl) h3.1 (by rw[h3.2,zoneW,if_neg (by omega),hz])
   ·exact key f (by rw[g];rfl) h4.1 (by rw[h4.2,zoneW,if_pos ⟨k,rfl⟩])
def upL (n:Nat):List Int:=(List.range n).map fun(i:Nat)=>(i:Int)
theorem upL_len (n:Nat):(upL n).length=n:=by simp[upL]
theorem upL_mem {n:Nat} {k:Nat}:(k:Int)∈upL n↔k<n:=by
 simp only[upL,List.mem_map,List.mem_range]
 constructor
 ·rintro⟨a,ha,h⟩;omega
 ·intro h;exact⟨k,h,rfl⟩
theorem upL_getD {n i:Nat} (h:i<n):(upL n).getD i 0=i:=by simp[upL,h]
theorem Good.up {A n:Nat} {y:Ly} (h:Good A n y) {k:Nat} (hk:k<n) {i:Int} (hl:leadsB (y.nodes.getD k default) k i=true):(k:Int)<i:=by
 rw[leadsB,Bool.and_eq_true,decide_eq_true_eq,decide_eq_true_eq] at hl
 obtain⟨h1,h2⟩:=hl
 rcases(h.shp k hk).ex with ⟨_,g⟩|⟨_,e,g,he⟩|⟨_,e,f,g,_,he,hf⟩|⟨_,f,g,hf⟩|⟨_,e,f,g,_,he,hf⟩
 ·rw[g] at h2;simp at h2
 ·rw[g] at h2;simp at h2;rw[h2];exact he.1
 ·rw[g] at h2;simp at h2
  rcases h2 with rfl|rfl
  ·exact he.1
  ·exact hf.1
 ·rw[g] at h2;simp at h2
  rcases h2 with rfl|rfl
  ·exact absurd rfl h1
  ·exact hf.1
 ·rw[g] at h2;simp at h2
  rcases h2 with rfl|rfl
  ·exact he.1
  ·exact hf.1
theorem Good.ord {A n:Nat} {y:Ly} (h:Good A n y):order y.nodes=upL n:=by
 have hN:=h.len
 have:∀m,m<=n->ordR y.nodes m=upL m:=by
  intro m
  induction m with
  |zero=>intro _;rfl
  |succ m ih=>
   intro hm
   have hx:nxt y.nodes (upL m)=m:=by
    refine nxF_first (by omega) ?_ fun j hj=>?_
    ·rw[rdyK_iff]
     refine⟨fun h=>by have:=upL_mem.1 h;omega,fun k hk hl=>upL_mem.2 ?_⟩
     have:=h.up (by omega) hl
     omega
    ·rw[<-Bool.not_eq_true,rdyK_iff]
     exact fun h=>h.1 (upL_mem.2 hj)
   rw[ordR,ih (by omega),hx,if_neg (by omega)]
   simp[upL,List.range_succ]
 rw[order,hN]
 exact this n (Nat.le_refl _)
theorem tz_tab:((List.range 2048).all fun S=>decide (S=0)||(S.testBit (tz 11 S)&&((List.range 11).all fun j=>((S &&& (S - 1)).testBit j==(S.testBit j&&!decide (j=tz 11 S)))&&(!S.testBit j||decide (tz 11 S<=j)))))=true:=by kernel_rfl
theorem tz_bits {S:Nat} (h:S<2048) (h0:S≠0):S.testBit (tz 11 S)=true/\(∀j,j<11->(S &&& (S - 1)).testBit j=(S.testBit j&&!decide (j=tz 11 S)))/\∀j,j<11->S.testBit j=true->tz 11 S<=j:=by
 have:=List.all_eq_true.1 tz_tab S (List.mem_range.2 h)
 simp only[Bool.or_eq_true,Bool.and_eq_true,decide_eq_true_eq,List.all_eq_true,List.mem_range,beq_iff_eq,Bool.not_eq_true'] at this
 rcases this with h1|⟨h1,h2⟩
 ·exact absurd h1 h0
 ·refine⟨h1,fun j hj=>(h2 j hj).1,fun j hj hb=>?_⟩
  rcases(h2 j hj).2 with h3|h3
  ·rw[hb] at h3;cases h3
  ·exact h3
theorem comN_bit (xs:List Nd) (W:List Int) (n:Nat) (j:Nat):∀m,(comN xs W n m).testBit j=(decide (j<m)&&cmr xs W n j)
 |0=>by simp[comN]
 |m+1=>by
  have ih:=comN_bit xs W n j m
  rw[comN]
  by_cases hjm:j=m
  ·subst hjm
   split
   ·rename_i h
    rw[Nat.testBit_or,ih,Nat.testBit_two_pow]
    simp[h]
   ·rename_i h
    rw[ih]
    simp[h]
  ·have e:decide (j<m+1)=decide (j<m):=by
    by_cases h:j<m
    ·rw[decide_eq_true h,decide_eq_true (by omega)]
    ·rw[decide_eq_false h,decide_eq_false (by omega)]
   rw[e]
   split
   ·rw[Nat.testBit_or,ih,Nat.testBit_two_pow]
    simp[show ¬m=j by omega]
   ·exact ih
theorem tzR_getD (W:List Int) {k:Nat}:∀(f S:Nat) (lv:List Int),S<=f->S<2048->k<lv.length->k<11->(tzR W f S lv).getD k 0=if S.testBit k=true then W.getD k 0 else lv.getD k 0
 |0,S,lv,h1,_,_,_=>by
  obtain rfl:S=0:=by omega
  simp[tzR]
 |f+1,S,lv,h1,h2,h3,h4=>by
  rw[tzR]
  split
  ·rename_i h;subst h;simp
  ·rename_i h0
   obtain⟨b1,b2,b3⟩:=tz_bits h2 h0
   have hle:S &&& (S - 1)<=S - 1:=Nat.and_le_right
   rw[tzR_getD W f _ _ (by omega) (by omega) (by simpa using h3) h4,b2 k h4,getD_set2]
   by_cases hk:k=tz 11 S
   ·subst hk
    simp[b1,h3]
   ·simp[hk,show ¬tz 11 S=k from fun h=>hk h.symm]
def tgI (xs:List Nd) (W:List Int) (m:Nat):Int:=(xs.getD m default).ex.getD (W.getD m 0).toNat 0
theorem cmr_iff {xs:List Nd} {W:List Int} {n m:Nat}:cmr xs W n m=true↔m≠n/\0<=W.getD m 0/\tgI xs W m=n:=by
 simp[cmr,tgI]
structure Ups (xs:List Nd) (W:List Int):Prop where
 n11:xs.length<=11
 wl:W.length=xs.length
 up:∀m,m<xs.length->0<=W.getD m 0->(m:Int)<=tgI xs W m/\tgI xs W m<xs.length
 lp:∀m,m<xs.length->(xs.getD m default).kd=5->W.getD m 0=0->tgI xs W m=m
def Lets (xs:List Nd) (p:Pl) (W LV:List Int) (m t:Nat):Prop:=
 isStrip (xs.getD t default).kd=false\/(openR (xs.getD t default) (p.slots.getD t [])=true/\¬((xs.getD t default).kd=5/\LV.getD t 0=0)/\∀k,k<m->cmr xs W t k=false)
def Rnd (xs:List Nd) (p:Pl) (m:Nat):Prop:=(xs.getD m default).kd=5/\(p.slots.getD m []).getD 0 0=0
def Fin (xs:List Nd) (p:Pl) (W LV:List Int) (m:Nat):Prop:=
 (W.getD m 0<0/\LV.getD m 0=-1)\/(0<=W.getD m 0/\
  ((LV.getD m 0=W.getD m 0/\tgI xs W m≠m/\Lets xs p W LV m (tgI xs W m).toNat)\/
   (¬(tgI xs W m≠m/\Lets xs p W LV m (tgI xs W m).toNat)/\((Rnd xs p m/\LV.getD m 0=0)\/(¬Rnd xs p m/\LV.getD m 0=-1)))))
structure EqLV (xs:List Nd) (p:Pl) (W LV:List Int):Prop where
 len:LV.length=xs.length
 fin:∀m,m<xs.length->Fin xs p W LV m
structure InvLV (xs:List Nd) (p:Pl) (W LV:List Int) (b:Nat):Prop where
 len:LV.length=xs.length
 fin:∀m,m<xs.length->b<=m->Fin xs p W LV m
 neg:∀m,m<xs.length->m<b->(W.getD m 0<0\/tgI xs W m<b)->LV.getD m 0=-1
 mid:∀m,m<xs.length->m<b->0<=W.getD m 0->b<=tgI xs W m->(LV.getD m 0=W.getD m 0/\Lets xs p W LV m (tgI xs W m).toNat)\/(LV.getD m 0=-1/\¬Lets xs p W LV m (tgI xs W m).toNat)
theorem Lets.congr {xs:List Nd} {p:Pl} {W LV LV':List Int} {m t:Nat} (h:LV'.getD t 0=LV.getD t 0):Lets xs p W LV' m t↔Lets xs p W LV m t:=by
 unfold Lets;rw[h]
theorem Fin.congr {xs:List Nd} {p:Pl} {W LV LV':List Int} {m:Nat} (h:LV'.getD m 0=LV.getD m 0) (ht:0<=W.getD m 0->LV'.getD (tgI xs W m).toNat 0=LV.getD (tgI xs W m).toNat 0):Fin xs p W LV m->Fin xs p W LV' m:=by
 unfold Fin
 rintro(h1|⟨h1,h2⟩)
 ·exact .inl (h ▸ h1)
 ·refine .inr ⟨h1,?_⟩
  rw[Lets.congr (ht h1),h]
  exact h2
theorem arnd_iff {x:Nd} {sl:List Int} {w l:Int}:arnd x sl w l=true↔x.kd=5/\0<=w/\l<0/\sl.getD 0 0=0:=by
 simp only[arnd,Bool.and_eq_true,decide_eq_true_eq]
theorem flS_get {xs:List Nd} {p:Pl} {W:List Int} {n:Nat} {s:List Int×List Int} (hu:Ups xs W) (hl:s.1.length=xs.length) {k:Nat} (hk:k<xs.length) (hn:n<xs.length):
  (flS xs p W n s).1.getD k 0=
   (if k=n then(if arnd (xs.getD n default) (p.slots.getD n []) (W.getD n 0) (s.1.getD n 0)=true then 0 else s.1.getD k 0)
    else if cmr xs W n k=true/\(isStrip (xs.getD n default).kd=false\/(openR (xs.getD n default) (p.slots.getD n [])=true/\arnd (xs.getD n default) (p.slots.getD n []) (W.getD n 0) (s.1.getD n 0)=false/\∀j,j<k->cmr xs W n j=false)) then W.getD k 0
    else s.1.getD k 0):=by
 have hN:=hu.n11
 have hS:comN xs W n W.length<2048:=by
  have:=comN_lt xs W n W.length
  have h2:2^W.length<=2^11:=Nat.pow_le_pow_right (by omega) (by rw[hu.wl];omega)
  omega
 have hbit:=fun j=>comN_bit xs W n j W.length
 rw[hu.wl] at hbit hS
 unfold flS
 simp only[hu.wl]
 generalize comN xs W n xs.length=S at*
 generalize arnd (xs.getD n default) (p.slots.getD n []) (W.getD n 0) (s.1.getD n 0)=ar at*
 have hlv:(if ar=true then s.1.set n 0 else s.1).getD k 0=if k=n then(if ar=true then 0 else s.1.getD k 0) else s.1.getD k 0:=by
  split
  ·rw[getD_set2]
   by_cases h:k=n
   ·subst h;simp[hl,hk]
   ·simp[h,show ¬n=k from fun h2=>h h2.symm]
  ·simp
 have hll:(if ar=true then s.1.set n 0 else s.1).length=xs.length:=by split<;>simp[hl]
 generalize (if ar=true then s.1.set n 0 else s.1)=lv at*
 have hnn:cmr xs W n n=false:=by simp[cmr]
 by_cases c1:isStrip (xs.getD n default).kd=false
 ·rw[if_pos c1]
  simp only
  rw[tzR_getD W _ _ _ (Nat.le_refl _) hS (by omega) (by omega),hbit k,hlv]
  by_cases hkn:k=n
  ·subst hkn;simp[hnn]
  ·rw[if_neg hkn,if_neg hkn]
   by_cases hc:cmr xs W n k=true
   ·rw[if_pos (by rw[hc,decide_eq_true hk];rfl),if_pos ⟨hc, .inl c1⟩]
   ·rw[if_neg (by simp[hc]),if_neg (fun h=>hc h.1)]
 ·rw[if_neg c1]
  have c1':isStrip (xs.getD n default).kd=true:=by simpa using c1
  split
  ·rename_i h
   obtain⟨h0,h1,h2⟩:=h
   obtain⟨b1,b2,b3⟩:=tz_bits hS h0
   rw[hbit,Bool.and_eq_true,decide_eq_true_eq] at b1
   have hm:tz 11 S≠n:=fun h=>by rw[h,hnn] at b1;cases b1.2
   simp only
   rw[getD_set2,hll,hlv]
   by_cases hkm:tz 11 S=k
   ·have hno:∀j,j<k->cmr xs W n j=false:=fun j hj=>by
     rw[<-Bool.not_eq_true]
     intro hc
     have:=b3 j (by omega) (by rw[hbit,hc];simp;omega)
     omega
    rw[if_pos ⟨hkm,by omega⟩,if_neg (by omega),if_pos ⟨hkm ▸ b1.2, .inr ⟨h1,h2,hno⟩⟩,hkm]
   ·rw[if_neg (fun h=>hkm h.1)]
    by_cases hkn:k=n
    ·rw[if_pos hkn,if_pos hkn]
    ·rw[if_neg hkn,if_neg hkn,if_neg]
     rintro⟨hc,h3|⟨_,_,h3⟩⟩
     ·exact c1 h3
     ·have:=b3 k (by omega) (by rw[hbit,hc];simp;omega)
      have:=h3 (tz 11 S) (by omega)
      rw[b1.2] at this
      cases this
  ·rename_i h
   simp only
   rw[hlv]
   by_cases hkn:k=n
   ·rw[if_pos hkn,if_pos hkn]
   ·rw[if_neg hkn,if_neg hkn,if_neg]
    rintro⟨hc,h3|⟨h3,h4,_⟩⟩
    ·exact c1 h3
    ·refine h ⟨?_,h3,h4⟩
     intro h0
     have:=hbit k
     rw[hc,h0] at this
     simp[hk] at this
theorem flS_inv {xs:List Nd} {p:Pl} {W:List Int} {n:Nat} {s:List Int×List Int} (hu:Ups xs W) (hn:n<xs.length) (h:InvLV xs p W s.1 (n+1)):InvLV xs p W (flS xs p W n s).1 n:=by
 obtain⟨hl,hf,hg,hm⟩:=h
 have get:=fun k hk=>flS_get (p:=p) (s:=s) hu hl (k:=k) hk hn
 have hl2:(flS xs p W n s).1.length=xs.length:=flS_len.1.trans hl
 generalize (flS xs p W n s).1=lv at*
 have hcm:∀k,k<xs.length->n<k->cmr xs W n k=false:=fun k hk hnk=>by
  rw[<-Bool.not_eq_true,cmr_iff]
  rintro⟨_,h1,h2⟩
  have:=(hu.up k hk h1).1
  omega
 have hgt:∀k,k<xs.length->n<k->lv.getD k 0=s.1.getD k 0:=fun k hk hnk=>by
  rw[get k hk,if_neg (by omega),hcm k hk hnk,if_neg (by simp)]
 have hnv:(W.getD n 0<0/\s.1.getD n 0=-1)\/(0<=W.getD n 0/\((s.1.getD n 0=W.getD n 0/\tgI xs W n≠n/\Lets xs p W s.1 n (tgI xs W n).toNat)\/(s.1.getD n 0=-1/\¬(tgI xs W n≠n/\Lets xs p W s.1 n (tgI xs W n).toNat)))):=by
  by_cases h0:W.getD n 0<0
  ·exact .inl ⟨h0,hg n hn (by omega) (.inl h0)⟩
  ·refine .inr ⟨by omega,?_⟩
   obtain⟨u1,u2⟩:=hu.up n hn (by omega)
   by_cases h1:tgI xs W n=n
   ·exact .inr ⟨hg n hn (by omega) (.inr (by omega)),fun h=>h.1 h1⟩
   ·rcases hm n hn (by omega) (by omega) (by omega) with ⟨h2,h3⟩|⟨h2,h3⟩
    ·exact .inl ⟨h2,h1,h3⟩
    ·exact .inr ⟨h2,fun h=>h3 h.2⟩
 have hgn:=get n hn
 rw[if_pos rfl] at hgn
 have hln:∀k,k<xs.length->k<n->((cmr xs W n k=true/\Lets xs p W lv k n->lv.getD k 0=W.getD k 0)/\(¬(cmr xs W n k=true/\Lets xs p W lv k n)->lv.getD k 0=s.1.getD k 0)):=fun k hk hkn=>by
  rw[get k hk,if_neg (by omega)]
  have:arnd (xs.getD n default) (p.slots.getD n []) (W.getD n 0) (s.1.getD n 0)=false↔¬((xs.getD n default).kd=5/\lv.getD n 0=0):=by
   rw[hgn]
   by_cases ha:arnd (xs.getD n default) (p.slots.getD n []) (W.getD n 0) (s.1.getD n 0)=true
   ·rw[ha,if_pos rfl]
    have:(xs.getD n default).kd=5:=by
     rw[arnd,Bool.and_eq_true,decide_eq_true_eq] at ha
     exact ha.1
    exact⟨fun h=>(by cases h),fun h=>absurd ⟨this,rfl⟩ h⟩
   ·rw[if_neg ha]
    simp only[Bool.not_eq_true] at ha
    rw[ha]
    simp only[true_iff]
    rintro⟨h5,h0⟩
    rcases hnv with ⟨_,h1⟩|⟨h1,⟨h2,h3,_⟩|⟨h2,_⟩⟩
    ·omega
    ·exact h3 (hu.lp n hn h5 (by omega))
    ·omega
  have hc:(cmr xs W n k=true/\(isStrip (xs.getD n default).kd=false\/(openR (xs.getD n default) (p.slots.getD n [])=true/\arnd (xs.getD n default) (p.slots.getD n []) (W.getD n 0) (s.1.getD n 0)=false/\∀j,j<k->cmr xs W n j=false)))↔(cmr xs W n k=true/\Lets xs p W lv k n):=by
   unfold Lets
   rw[this]
  exact⟨fun h=>if_pos (hc.2 h),fun h=>if_neg (fun h2=>h (hc.1 h2))⟩
 have hLt:∀m t,n<t->t<xs.length->(Lets xs p W lv m t↔Lets xs p W s.1 m t):=fun m t h1 h2=>Lets.congr (hgt t h2 h1)
 refine⟨hl2,fun m hm1 hm2=>?_,fun m hm1 hm2 hm3=>?_,fun m hm1 hm2 hm3 hm4=>?_⟩
 ·by_cases hmn:m=n
  ·subst hmn
   unfold Fin
   rcases hnv with ⟨h1,h2⟩|⟨h1,h2⟩
   ·refine .inl ⟨h1,?_⟩
    rw[hgn,if_neg (fun h=>by have:=arnd_iff.1 h;omega),h2]
   ·refine .inr ⟨h1,?_⟩
    obtain⟨u1,u2⟩:=hu.up m hn h1
    have hL:(tgI xs W m≠m/\Lets xs p W lv m (tgI xs W m).toNat)↔(tgI xs W m≠m/\Lets xs p W s.1 m (tgI xs W m).toNat):=and_congr_right fun h=>hLt _ _ (by omega) (by omega)
    rcases h2 with ⟨h2,h3⟩|⟨h2,h3⟩
    ·refine .inl ⟨?_,hL.2 h3⟩
     rw[hgn,if_neg (fun h=>by have:=arnd_iff.1 h;omega),h2]
    ·refine .inr ⟨fun h=>h3 (hL.1 h),?_⟩
     rw[hgn,h2]
     unfold Rnd
     by_cases hr:(xs.getD m default).kd=5/\(p.slots.getD m []).getD 0 0=0
     ·refine .inl ⟨hr,?_⟩
      rw[if_pos]
      simp only[arnd,Bool.and_eq_true,decide_eq_true_eq]
      exact⟨hr.1,h1,by decide,hr.2⟩
     ·refine .inr ⟨hr,?_⟩
      rw[if_neg]
      simp only[arnd,Bool.and_eq_true,decide_eq_true_eq]
      exact fun h=>hr ⟨h.1,h.2.2.2⟩
  ·refine Fin.congr (hgt m hm1 (by omega)) (fun h=>?_) (hf m hm1 (by omega))
   obtain⟨u1,u2⟩:=hu.up m hm1 h
   exact hgt _ (by omega) (by omega)
 ·rw[(hln m hm1 hm2).2 (by
   rw[cmr_iff]
   rintro⟨⟨_,h1,h2⟩,_⟩
   omega)]
  exact hg m hm1 (by omega) (by omega)
 ·obtain⟨u1,u2⟩:=hu.up m hm1 hm3
  by_cases ht:tgI xs W m=n
  ·have hc:cmr xs W n m=true:=cmr_iff.2 ⟨by omega,hm3,ht⟩
   rw[ht,Int.toNat_natCast]
   by_cases hL:Lets xs p W lv m n
   ·rw[(hln m hm1 hm2).1 ⟨hc,hL⟩];exact .inl ⟨rfl,hL⟩
   ·rw[(hln m hm1 hm2).2 (fun h=>hL h.2)]
    exact .inr ⟨hg m hm1 (by omega) (.inr (by omega)),hL⟩
  ·rw[(hln m hm1 hm2).2 (fun h=>ht (cmr_iff.1 h.1).2.2),hLt _ _ (by omega) (by omega)]
   exact hm m hm1 (by omega) hm3 (by omega)
theorem flows_eq {xs:List Nd} {p:Pl} {W:List Int} (hu:Ups xs W):EqLV xs p W (flows xs p W (upL xs.length)).1:=by
 have:∀c,c<=xs.length->InvLV xs p W (flF xs p W (upL xs.length) c).1 (xs.length - c):=by
  intro c
  induction c with
  |zero=>
   intro _
   refine⟨negs_len _,fun m h1 h2=>by omega,fun m h1 h2 h3=>?_,fun m h1 h2 h3 h4=>?_⟩
   ·simp[flF,negs,h1]
   ·have:=(hu.up m h1 h3).2;omega
  |succ c ih=>
   intro hc
   have h1:=ih (by omega)
   rw[flF,upL_len,upL_getD (by omega),Int.toNat_natCast]
   have e:xs.length - c=(xs.length - 1 - c)+1:=by omega
   rw[e] at h1
   have:=flS_inv hu (by omega) h1
   rw[show xs.length - (c+1)=xs.length - 1 - c by omega]
   exact this
 have h:=this xs.length (Nat.le_refl _)
 rw[flows,upL_len]
 exact⟨h.len,fun m hm=>h.fin m hm (by omega)⟩
open Go.Plant
structure Sx (A n:Nat) (y:Ly) (p:Pl) (cs:List Int) (fs:List T3):Prop where
 good:Good A n y
 fp:FitP y.nodes p
 ff:FitF y.nodes fs
 cl:cs.length=n
 cmd:∀i,i<n->cmdOk (y.nodes.getD i default) (cs.getD i 0)=true
def WN (y:Ly) (p:Pl) (cs:List Int) (fs:List T3):List Int:=wnts y.nodes p cs fs y.nodes.length
def LVo (y:Ly) (p:Pl) (cs:List Int) (fs:List T3):List Int:=(flows y.nodes p (WN y p cs fs) (upL y.nodes.length)).1
section
variable {A n:Nat} {y:Ly} {p:Pl} {cs:List Int} {fs:List T3}
theorem Good.exl (h:Good A n y) {m:Nat} (hm:m<n):((y.nodes.getD m default).ex.length:Int)=exitsN (y.nodes.getD m default).kd:=by
 have:=h.node hm
 rw[nodeE] at this
 split at this
 ·cases this
 ·split at this
  ·cases this
  ·split at this
   ·rename_i h2
    exact(leadP_true.1 h2.2.2).1
   ·cases this
theorem Good.lp (h:Good A n y) {m:Nat} (hm:m<n) (h5:(y.nodes.getD m default).kd=5):(y.nodes.getD m default).ex.getD 0 0=m:=by
 rcases(h.shp m hm).ex with ⟨k,g⟩|⟨k,e,g,he⟩|⟨k,e,f,g,hne,he,hf⟩|⟨k,f,g,hf⟩|⟨k,e,f,g,hne,he,hf⟩
 ·omega
 ·omega
 ·omega
 ·rw[g];rfl
 ·omega
theorem wnt_ok (h:Sx A n y p cs fs) {m:Nat} (hm:m<n) (h0:0<=(WN y p cs fs).getD m 0):
  (WN y p cs fs).getD m 0<(y.nodes.getD m default).ex.length/\
  (((y.nodes.getD m default).kd=7/\(WN y p cs fs).getD m 0=0/\cs.getD m 0∈p.bins.getD m [])\/
   (isStrip (y.nodes.getD m default).kd=true/\(WN y p cs fs).getD m 0=cs.getD m 0/\(p.slots.getD m []).getD ((y.nodes.getD m default).ln.toNat - 1) 0≠0/\fs.any (fun z=>eqT ⟨1,m,(y.nodes.getD m default).ln - 1⟩ z)=false)):=by
 have hl:=h.good.len
 have he:=h.good.exl hm
 have hc:=h.cmd m hm
 rw[WN,wnts_getD (by omega)] at h0 ⊢
 unfold wntP at h0 ⊢
 split at h0
 ·rename_i k7
  rw[if_pos k7]
  split at h0
  ·rename_i hb
   rw[if_pos hb]
   refine⟨by rw[he,exitsN,if_neg (by omega),if_neg (by omega)];decide, .inl ⟨k7,rfl,?_⟩⟩
   obtain⟨z,hz,hez⟩:=List.any_eq_true.1 hb
   rw[decide_eq_true_eq] at hez
   rw[hez];exact hz
  ·omega
 ·rename_i k7
  rw[if_neg k7]
  split at h0
  ·omega
  ·rename_i ks
   rw[if_neg ks]
   split at h0
   ·omega
   ·rename_i hs
    rw[if_neg hs]
    refine⟨?_, .inr ⟨by simpa using ks,rfl,fun h=>hs (.inl h),by simpa using fun h=>hs (.inr h)⟩⟩
    unfold cmdOk at hc
    rw[if_neg k7,if_neg (by simpa using ks),if_neg (by omega)] at hc
    simp at hc
    exact hc.2
theorem Sx.ups (h:Sx A n y p cs fs):Ups y.nodes (WN y p cs fs):=by
 have hl:=h.good.len
 have hn:=h.good.n11
 refine⟨by omega,wnts_len _ _ _ _ _,fun m hm h0=>?_,fun m hm h5 h0=>?_⟩
 ·obtain⟨h1,_⟩:=wnt_ok h (by omega) h0
  have hx:=h.good.ex m hm ((WN y p cs fs).getD m 0).toNat (by omega)
  refine⟨?_,hx.2⟩
  by_cases hs:tgI y.nodes (WN y p cs fs) m=m
  ·omega
  ·refine Int.le_of_lt (h.good.up (by omega) ?_)
   rw[leadsB,Bool.and_eq_true,decide_eq_true_eq,decide_eq_true_eq]
   exact⟨fun h=>hs h.symm,getD_memI (by omega)⟩
 ·rw[tgI,h0];exact h.good.lp (by omega) h5
theorem Sx.eq (h:Sx A n y p cs fs):EqLV y.nodes p (WN y p cs fs) (LVo y p cs fs):=flows_eq h.ups
def goesTo (xs:List Nd) (LV:List Int) (m:Nat):Int:=(xs.getD m default).ex.getD (LV.getD m 0).toNat 0
theorem goes_cases (h:Sx A n y p cs fs) {m:Nat} (hm:m<n) (h0:0<=(LVo y p cs fs).getD m 0):
  0<=(WN y p cs fs).getD m 0/\0<=goesTo y.nodes (LVo y p cs fs) m/\goesTo y.nodes (LVo y p cs fs) m<n/\
  ((goesTo y.nodes (LVo y p cs fs) m=tgI y.nodes (WN y p cs fs) m/\(LVo y p cs fs).getD m 0=(WN y p cs fs).getD m 0/\tgI y.nodes (WN y p cs fs) m≠m/\Lets y.nodes p (WN y p cs fs) (LVo y p cs fs) m (tgI y.nodes (WN y p cs fs) m).toNat)\/
   (goesTo y.nodes (LVo y p cs fs) m=m/\Rnd y.nodes p m/\(LVo y p cs fs).getD m 0=0)):=by
 have hl:=h.good.len
 have hu:=h.ups
 have hf:=h.eq.fin m (by omega)
 unfold Fin at hf
 rcases hf with ⟨h1,h2⟩|⟨h1,⟨h2,h3,h4⟩|⟨h2,⟨h3,h4⟩|⟨h3,h4⟩⟩⟩
 ·omega
 ·have hg:goesTo y.nodes (LVo y p cs fs) m=tgI y.nodes (WN y p cs fs) m:=by rw[goesTo,tgI,h2]
  have:=hu.up m (by omega) h1
  exact⟨h1,by omega,by omega, .inl ⟨hg,h2,h3,h4⟩⟩
 ·have hg:goesTo y.nodes (LVo y p cs fs) m=m:=by rw[goesTo,h4];exact h.good.lp hm h3.1
  exact⟨h1,by omega,by omega, .inr ⟨hg,h3,h4⟩⟩
 ·omega
theorem goes_lv (h:Sx A n y p cs fs):LvOk y.nodes (LVo y p cs fs):=by
 intro m hm h0
 have hl:=h.good.len
 obtain⟨h1,_,_,h2⟩:=goes_cases h (by omega) h0
 have:=(wnt_ok h (by omega) h1).1
 rcases h2 with ⟨_,h2,_⟩|⟨_,h2,h3⟩
 ·omega
 ·omega
theorem goes_one (h:Sx A n y p cs fs) {m k t:Nat} (hm:m<n) (hk:k<n) (h0:0<=(LVo y p cs fs).getD m 0) (h1:0<=(LVo y p cs fs).getD k 0)
  (hmt:goesTo y.nodes (LVo y p cs fs) m=t) (hkt:goesTo y.nodes (LVo y p cs fs) k=t) (hs:isStrip (y.nodes.getD t default).kd=true):m=k:=by
 obtain⟨a1,_,_,a2⟩:=goes_cases h hm h0
 obtain⟨b1,_,_,b2⟩:=goes_cases h hk h1
 rcases a2 with ⟨e1,e2,e3,e4⟩|⟨e1,e2,e3⟩<;>rcases b2 with ⟨f1,f2,f3,f4⟩|⟨f1,f2,f3⟩
 ·have e5:tgI y.nodes (WN y p cs fs) m=t:=by omega
  have f5:tgI y.nodes (WN y p cs fs) k=t:=by omega
  rw[e5,Int.toNat_natCast] at e4
  rw[f5,Int.toNat_natCast] at f4
  rcases e4 with e4|⟨_,_,e4⟩
  ·rw[hs] at e4;cases e4
  rcases f4 with f4|⟨_,_,f4⟩
  ·rw[hs] at f4;cases f4
  rcases Nat.lt_trichotomy m k with hlt|heq|hgt
  ·have:=f4 m hlt
   rw[cmr_iff.2 ⟨by omega,a1,e5⟩] at this;cases this
  ·exact heq
  ·have:=e4 k hgt
   rw[cmr_iff.2 ⟨by omega,b1,f5⟩] at this;cases this
 ·have e5:tgI y.nodes (WN y p cs fs) m=t:=by omega
  have f5:k=t:=by omega
  subst f5
  rw[e5,Int.toNat_natCast] at e4
  rcases e4 with e4|⟨_,e4,_⟩
  ·rw[hs] at e4;cases e4
  ·exact absurd ⟨f2.1,f3⟩ e4
 ·have f5:tgI y.nodes (WN y p cs fs) k=t:=by omega
  have e5:m=t:=by omega
  subst e5
  rw[f5,Int.toNat_natCast] at f4
  rcases f4 with f4|⟨_,f4,_⟩
  ·rw[hs] at f4;cases f4
  ·exact absurd ⟨e2.1,e3⟩ f4
 ·omega
theorem goes_room (h:Sx A n y p cs fs) {m t:Nat} (hm:m<n) (h0:0<=(LVo y p cs fs).getD m 0) (hmt:goesTo y.nodes (LVo y p cs fs) m=t) (hs:isStrip (y.nodes.getD t default).kd=true):
  (p.slots.getD t []).getD 0 0=0/\(m≠t->(y.nodes.getD t default).kd=5->2<=free (p.slots.getD t [])):=by
 obtain⟨a1,_,_,a2⟩:=goes_cases h hm h0
 rcases a2 with ⟨e1,e2,e3,e4⟩|⟨e1,e2,e3⟩
 ·have e5:tgI y.nodes (WN y p cs fs) m=t:=by omega
  rw[e5,Int.toNat_natCast] at e4
  rcases e4 with e4|⟨e4,_,_⟩
  ·rw[hs] at e4;cases e4
  ·rw[openR,if_pos hs,Bool.and_eq_true,Bool.or_eq_true,decide_eq_true_eq,decide_eq_true_eq,decide_eq_true_eq] at e4
   exact⟨e4.1,fun _ h5=>e4.2.resolve_left (fun h=>h h5)⟩
 ·have:m=t:=by omega
  subst this
  exact⟨e2.2,fun h=>absurd rfl h⟩
theorem atL_one {fs:List T3} {n:Int} {ln k:Nat}:∀i,i<=fs.length->(atL fs n ln i).getD k 0=1->∃j,j<i/\(fs.getD j default).b=n/\(fs.getD j default).c.toNat=k/\(fs.getD j default).a=1
 |0,_,h=>by
  simp only[atL,List.getD_eq_getElem?_getD,List.getElem?_replicate] at h
  split at h<;>simp at h
 |i+1,hi,h=>by
  rw[atL] at h
  unfold atS at h
  split at h
  ·rename_i hb
   rw[getD_set2] at h
   split at h
   ·rename_i hc
    exact⟨i,by omega,hb,hc.1,h⟩
   ·obtain⟨j,h1,h2⟩:=atL_one i (by omega) h
    exact⟨j,by omega,h2⟩
  ·obtain⟨j,h1,h2⟩:=atL_one i (by omega) h
   exact⟨j,by omega,h2⟩
theorem atF_free (hf:FitF y.nodes fs) {m k:Nat} (hm:m<y.nodes.length) (h:fs.any (fun z=>eqT ⟨1,m,k⟩ z)=false) {ln:Nat}:(atF fs m ln).getD k 0≠1:=by
 intro h1
 obtain⟨j,h2,h3,h4,h5⟩:=atL_one _ (Nat.le_refl _) h1
 have:=(hf.ok j h2 m hm h3).1
 rw[List.any_eq_false] at h
 refine h _ (mem_getD (d:=default) h2) (eqT_iff.2 ?_)
 generalize fs.getD j default=f at*
 cases f
 simp only at h3 h4 h5 this
 rw[<-h3,<-h5]
 congr 1
 omega
def advN (y:Ly) (p:Pl) (fs:List T3) (LV:List Int) (m:Nat):List Int×Int:=advL (p.slots.getD m []) (atF fs m (y.nodes.getD m default).ln.toNat) (decide (0<=LV.getD m 0))
theorem bag_strip (h:Sx A n y p cs fs) {m:Nat} (hm:m<n) (h0:0<=(LVo y p cs fs).getD m 0) (hs:isStrip (y.nodes.getD m default).kd=true):
  (advN y p fs (LVo y p cs fs) m).2=(p.slots.getD m []).getD ((y.nodes.getD m default).ln.toNat - 1) 0/\(p.slots.getD m []).getD ((y.nodes.getD m default).ln.toNat - 1) 0≠0:=by
 have hl:=h.good.len
 obtain⟨a1,_⟩:=goes_cases h hm h0
 obtain⟨_,⟨k7,_⟩|⟨_,_,h1,h2⟩⟩:=wnt_ok h hm a1
 ·rw[k7] at hs;exact absurd hs (by decide)
 ·have hrow:=h.fp.row m (by omega)
  have hst:=h.fp.st m (by omega) hs
  refine⟨?_,h1⟩
  have e:((y.nodes.getD m default).ln - 1:Int)=(((y.nodes.getD m default).ln.toNat - 1:Nat):Int):=by omega
  rw[e] at h2
  rw[advN,advL_out,decide_eq_true h0,hrow,if_pos ⟨rfl,atF_free h.ff (by omega) h2⟩]
theorem bag_none {LV:List Int} {m:Nat} (h0:LV.getD m 0<0):(advN y p fs LV m).2=0:=by
 rw[advN,advL_out,decide_eq_false (by omega),if_neg (by simp)]
end
open Go.Plant
section
variable {xs:List Nd} {p:Pl} {cs:List Int} {fs:List T3} {LV:List Int}
def mvOf (xs:List Nd) (p:Pl) (cs:List Int) (fs:List T3) (LV:List Int) (m:Nat):T3:=⟨bagOf xs p cs fs LV m,m,goesTo xs LV m⟩
theorem st1_len1:∀i,(st1 xs p cs fs LV i).1.length=p.slots.length
 |0=>rfl
 |i+1=>by rw[st1];simp only;split<;>simp[st1_len1 i]
theorem st1_len2:∀i,(st1 xs p cs fs LV i).2.1.length=p.bins.length
 |0=>rfl
 |i+1=>by rw[st1];simp only;split<;>(try split)<;>simp[st1_len2 i]
theorem st1_row {n:Nat} (hn:n<p.slots.length):∀i,(st1 xs p cs fs LV i).1.getD n []=if n<i/\isStrip (xs.getD n default).kd=true then(advL (p.slots.getD n []) (atF fs n (xs.getD n default).ln.toNat) (decide (0<=LV.getD n 0))).1 else p.slots.getD n []
 |0=>by simp[st1]
 |i+1=>by
  have ih:=st1_row hn i
  have hl:=st1_len1 (xs:=xs) (p:=p) (cs:=cs) (fs:=fs) (LV:=LV) i
  rw[st1]
  simp only
  by_cases h:isStrip (xs.getD i default).kd=true
  ·rw[if_pos h,getD_set2,hl,ih]
   by_cases hin:i=n
   ·subst hin;rw[if_pos ⟨rfl,hn⟩,if_pos ⟨by omega,h⟩]
   ·rw[if_neg (fun h=>hin h.1)]
    by_cases hlt:n<i
    ·simp[hlt,show n<i+1 by omega]
    ·simp[hlt,show ¬n<i+1 by omega]
  ·rw[if_neg h,ih]
   by_cases hin:i=n
   ·subst hin;rw[if_neg (fun h2=>h h2.2),if_neg (fun h2=>h h2.2)]
   ·by_cases hlt:n<i
    ·simp[hlt,show n<i+1 by omega]
    ·simp[hlt,show ¬n<i+1 by omega]
theorem st1_bin {n:Nat} (hn:n<p.bins.length):∀i,(st1 xs p cs fs LV i).2.1.getD n []=if n<i/\¬isStrip (xs.getD n default).kd=true/\0<=LV.getD n 0 then(p.bins.getD n []).filter (fun y=>!decide (y=cs.getD n 0)) else p.bins.getD n []
 |0=>by simp[st1]
 |i+1=>by
  have ih:=st1_bin hn i
  have hl:=st1_len2 (xs:=xs) (p:=p) (cs:=cs) (fs:=fs) (LV:=LV) i
  have e:∀P:Prop,[Decidable P]->i≠n->(n<i+1/\P↔n<i/\P):=fun P _ h=>and_congr_left fun _=>⟨fun h2=>by omega,fun h2=>by omega⟩
  rw[st1]
  simp only
  by_cases h:isStrip (xs.getD i default).kd=true
  ·rw[if_pos h,ih]
   by_cases hin:i=n
   ·subst hin;rw[if_neg (fun h2=>h2.2.1 h),if_neg (fun h2=>h2.2.1 h)]
   ·simp only[e _ hin]
  ·rw[if_neg h]
   split
   ·rename_i h0
    rw[getD_set2,hl]
    by_cases hin:i=n
    ·subst hin
     have ih2:(st1 xs p cs fs LV i).2.1.getD i []=p.bins.getD i []:=by rw[ih,if_neg (by omega)]
     rw[if_pos ⟨rfl,hn⟩,if_pos ⟨by omega,h,h0⟩,ih2]
    ·rw[if_neg (fun h=>hin h.1),ih];simp only[e _ hin]
   ·rename_i h0
    rw[ih]
    by_cases hin:i=n
    ·subst hin;rw[if_neg (fun h2=>h0 h2.2.2),if_neg (fun h2=>h0 h2.2.2)]
    ·simp only[e _ hin]
theorem st1_mv:∀i,(st1 xs p cs fs LV i).2.2=((List.range i).filter fun m=>decide (0<=LV.getD m 0)).map (mvOf xs p cs fs LV)
 |0=>rfl
 |i+1=>by
  rw[st1,List.range_succ,List.filter_append,List.map_append,<-st1_mv i]
  simp only
  split
  ·rename_i h
   rw[List.filter_cons_of_pos (by exact decide_eq_true h)];rfl
  ·rename_i h
   rw[List.filter_cons_of_neg (by simpa only[decide_eq_true_eq] using h)];simp
theorem st2_row {ms:List T3} {s:List (List Int)×List (List Int)} {n:Nat} (hs:s.1.length=xs.length) (hn:n<xs.length) (hm:∀m∈ms,0<=m.c/\m.c<xs.length):
  ∀i,i<=ms.length->(st2 xs ms s i).1.length=xs.length/\(st2 xs ms s i).1.getD n []=if isStrip (xs.getD n default).kd=true then((ms.take i).filter fun m:T3=>decide (m.c=(n:Int))).foldl (fun r m=>r.set 0 m.a) (s.1.getD n []) else s.1.getD n []
 |0,_=>by simp[st2,hs]
 |i+1,hi=>by
  obtain⟨hl,ih⟩:=st2_row hs hn hm i (by omega)
  have hmi:=hm _ (mem_getD (d:=default) (show i<ms.length by omega))
  rw[st2,take_getD (d:=default) (show i<ms.length by omega),List.filter_append,List.foldl_append]
  generalize ms.getD i default=m at*
  by_cases h:isStrip (xs.getD m.c.toNat default).kd=true
  ·rw[if_pos h]
   refine⟨by simp[hl],?_⟩
   simp only
   rw[getD_set2,hl]
   by_cases hc:m.c=n
   ·have:m.c.toNat=n:=by omega
    rw[this] at h ⊢
    rw[if_pos ⟨rfl,hn⟩,ih,if_pos h,if_pos h]
    simp[hc]
   ·rw[if_neg (by omega),ih]
    simp[hc]
  ·rw[if_neg h]
   refine⟨hl,?_⟩
   simp only
   rw[ih]
   by_cases hc:m.c=n
   ·have:m.c.toNat=n:=by omega
    rw[this] at h
    rw[if_neg h,if_neg h]
   ·simp[hc]
theorem st2_bin {ms:List T3} {s:List (List Int)×List (List Int)} {n:Nat} (hs:s.2.length=xs.length) (hn:n<xs.length) (hm:∀m∈ms,0<=m.c/\m.c<xs.length):
  ∀i,i<=ms.length->(st2 xs ms s i).2.length=xs.length/\(st2 xs ms s i).2.getD n []=if isStrip (xs.getD n default).kd=true then s.2.getD n [] else((ms.take i).filter fun m:T3=>decide (m.c=(n:Int))).foldl (fun r m=>putL r m.a) (s.2.getD n [])
 |0,_=>by simp[st2,hs]
 |i+1,hi=>by
  obtain⟨hl,ih⟩:=st2_bin hs hn hm i (by omega)
  have hmi:=hm _ (mem_getD (d:=default) (show i<ms.length by omega))
  rw[st2,take_getD (d:=default) (show i<ms.length by omega),List.filter_append,List.foldl_append]
  generalize ms.getD i default=m at*
  by_cases h:isStrip (xs.getD m.c.toNat default).kd=true
  ·rw[if_pos h]
   refine⟨hl,?_⟩
   simp only
   rw[ih]
   by_cases hc:m.c=n
   ·have:m.c.toNat=n:=by omega
    rw[this] at h
    rw[if_pos h,if_pos h]
   ·simp[hc]
  ·rw[if_neg h]
   refine⟨by simp[hl],?_⟩
   simp only
   rw[getD_set2,hl]
   by_cases hc:m.c=n
   ·have:m.c.toNat=n:=by omega
    rw[this] at h ⊢
    rw[if_pos ⟨rfl,hn⟩,ih,if_neg h,if_neg h]
    simp[hc]
   ·rw[if_neg (by omega),ih]
    simp[hc]
end
def inn (xs:List Nd) (LV:List Int) (t:Nat):List Nat:=(List.range xs.length).filter fun m=>decide (0<=LV.getD m 0)&&decide (goesTo xs LV m=t)
def outB (xs:List Nd) (p:Pl) (cs:List Int) (fs:List T3) (LV:List Int) (t:Nat):List Int:=if 0<=LV.getD t 0 then[bagOf xs p cs fs LV t] else[]
theorem filter_one {α:Type} {q:α->Bool}:∀{l:List α},l.Nodup->(∀a∈l,∀b∈l,q a=true->q b=true->a=b)->l.filter q=[]\/∃a,a∈l/\q a=true/\l.filter q=[a]
 |[],_,_=> .inl rfl
 |x::l,hd,h=>by
  rw[List.nodup_cons] at hd
  have ih:=filter_one hd.2 (fun a ha b hb=>h a (List.mem_cons_of_mem _ ha) b (List.mem_cons_of_mem _ hb))
  by_cases hx:q x=true
  ·rw[List.filter_cons_of_pos hx]
   refine .inr ⟨x,List.mem_cons_self,hx,?_⟩
   congr 1
   rw[List.filter_eq_nil_iff]
   intro a ha hqa
   have:=h x List.mem_cons_self a (List.mem_cons_of_mem _ ha) hx hqa
   rw[this] at hd
   exact hd.1 ha
  ·rw[List.filter_cons_of_neg (by simpa using hx)]
   rcases ih with ih|⟨a,ha,hqa,ih⟩
   ·exact .inl ih
   ·exact .inr ⟨a,List.mem_cons_of_mem _ ha,hqa,ih⟩
section
variable {A n:Nat} {y:Ly} {p:Pl} {cs:List Int} {fs:List T3}
abbrev stepY (y:Ly) (p:Pl) (cs:List Int) (fs:List T3):Pl×List T3:=stepP y.nodes p cs fs (LVo y p cs fs)
abbrev innY (y:Ly) (p:Pl) (cs:List Int) (fs:List T3) (t:Nat):List Nat:=inn y.nodes (LVo y p cs fs) t
abbrev bagY (y:Ly) (p:Pl) (cs:List Int) (fs:List T3) (m:Nat):Int:=bagOf y.nodes p cs fs (LVo y p cs fs) m
abbrev outY (y:Ly) (p:Pl) (cs:List Int) (fs:List T3) (m:Nat):List Int:=outB y.nodes p cs fs (LVo y p cs fs) m
theorem mv_filter {xs:List Nd} {LV:List Int} {t:Nat}:(((List.range xs.length).filter fun m=>decide (0<=LV.getD m 0)).map (mvOf xs p cs fs LV)).filter (fun m:T3=>decide (m.c=(t:Int)))=(inn xs LV t).map (mvOf xs p cs fs LV):=by
 rw[List.filter_map,List.filter_filter,inn]
 congr 2
 funext m
 show(decide (goesTo xs LV m=t)&&decide (0<=LV.getD m 0))=_
 rw[Bool.and_comm]
theorem mv_to (h:Sx A n y p cs fs):∀m∈(st1 y.nodes p cs fs (LVo y p cs fs) y.nodes.length).2.2,0<=m.c/\m.c<y.nodes.length:=
 st1_to h.good.ex (goes_lv h) _ (Nat.le_refl _)
theorem step_slot (h:Sx A n y p cs fs) {t:Nat} (ht:t<n):
  (stepY y p cs fs).1.slots.getD t []=if isStrip (y.nodes.getD t default).kd=true then(innY y p cs fs t).foldl (fun r m=>r.set 0 (bagY y p cs fs m)) (advN y p fs (LVo y p cs fs) t).1 else p.slots.getD t []:=by
 have hl:=h.good.len
 have h1:=(st2_row (n:=t) (s:=((st1 y.nodes p cs fs (LVo y p cs fs) y.nodes.length).1,(st1 y.nodes p cs fs (LVo y p cs fs) y.nodes.length).2.1)) (by simp only;rw[st1_len1,h.fp.sl]) (by omega) (mv_to h) _ (Nat.le_refl _)).2
 show(st2 _ _ _ _).1.getD t []=_
 rw[h1,List.take_length,st1_mv,mv_filter,List.foldl_map]
 simp only
 rw[st1_row (by rw[h.fp.sl];omega)]
 by_cases hs:isStrip (y.nodes.getD t default).kd=true
 ·rw[if_pos hs,if_pos hs,if_pos ⟨by omega,hs⟩];rfl
 ·rw[if_neg hs,if_neg hs,if_neg (fun h=>hs h.2)]
theorem step_bin (h:Sx A n y p cs fs) {t:Nat} (ht:t<n):
  (stepY y p cs fs).1.bins.getD t []=if isStrip (y.nodes.getD t default).kd=true then p.bins.getD t [] else(innY y p cs fs t).foldl (fun r m=>putL r (bagY y p cs fs m)) (if 0<=(LVo y p cs fs).getD t 0 then(p.bins.getD t []).filter (fun z=>!decide (z=cs.getD t 0)) else p.bins.getD t []):=by
 have hl:=h.good.len
 have h1:=(st2_bin (n:=t) (s:=((st1 y.nodes p cs fs (LVo y p cs fs) y.nodes.length).1,(st1 y.nodes p cs fs (LVo y p cs fs) y.nodes.length).2.1)) (by simp only;rw[st1_len2,h.fp.bl]) (by omega) (mv_to h) _ (Nat.le_refl _)).2
 show(st2 _ _ _ _).2.getD t []=_
 rw[h1,List.take_length,st1_mv,mv_filter,List.foldl_map]
 simp only
 rw[st1_bin (by rw[h.fp.bl];omega)]
 by_cases hs:isStrip (y.nodes.getD t default).kd=true
 ·rw[if_pos hs,if_pos hs,if_neg (fun h=>h.2.1 hs)]
 ·rw[if_neg hs,if_neg hs]
  by_cases h0:0<=(LVo y p cs fs).getD t 0
  ·rw[if_pos ⟨by omega,hs,h0⟩,if_pos h0];rfl
  ·rw[if_neg (fun h=>h0 h.2.2),if_neg h0];rfl
theorem step_moved (h:Sx A n y p cs fs):(stepY y p cs fs).2=(((List.range n).filter fun m=>decide (0<=(LVo y p cs fs).getD m 0)).map (mvOf y.nodes p cs fs (LVo y p cs fs))).filter fun m=>!decide (m.b=m.c):=by
 show List.filter _ (st1 _ _ _ _ _ _).2.2=_
 rw[st1_mv,h.good.len]
theorem inn_strip (h:Sx A n y p cs fs) {t:Nat} (hs:isStrip (y.nodes.getD t default).kd=true):innY y p cs fs t=[]\/∃m,m<n/\0<=(LVo y p cs fs).getD m 0/\goesTo y.nodes (LVo y p cs fs) m=t/\innY y p cs fs t=[m]:=by
 have hl:=h.good.len
 rcases filter_one (q:=fun m=>decide (0<=(LVo y p cs fs).getD m 0)&&decide (goesTo y.nodes (LVo y p cs fs) m=t)) (l:=List.range y.nodes.length) List.nodup_range (fun a ha b hb qa qb=>by
   simp only[Bool.and_eq_true,decide_eq_true_eq] at qa qb
   rw[List.mem_range] at ha hb
   exact goes_one h (by omega) (by omega) qa.1 qb.1 qa.2 qb.2 hs) with h1|⟨m,h1,h2,h3⟩
 ·exact .inl h1
 ·simp only[Bool.and_eq_true,decide_eq_true_eq] at h2
  rw[List.mem_range] at h1
  exact .inr ⟨m,by omega,h2.1,h2.2,h3⟩
theorem bag_ne (h:Sx A n y p cs fs) (hpos:∀t,t<n->∀b∈p.bins.getD t [],b≠0) {m:Nat} (hm:m<n) (h0:0<=(LVo y p cs fs).getD m 0):bagY y p cs fs m≠0:=by
 show bagOf _ _ _ _ _ _≠0
 rw[bagOf]
 split
 ·rename_i hs
  have:=bag_strip h hm h0 hs
  have h2:(advN y p fs (LVo y p cs fs) m).2≠0:=by rw[this.1];exact this.2
  exact h2
 ·rename_i hs
  obtain⟨a1,_⟩:=goes_cases h hm h0
  obtain⟨_,⟨k7,_,hb⟩|⟨hs2,_⟩⟩:=wnt_ok h hm a1
  ·exact hpos m hm _ hb
  ·exact absurd hs2 hs
theorem nz_one {b:Int} (h:b≠0):nz [b]=[b]:=by rw[nz_cons h];rfl
theorem step_nz (h:Sx A n y p cs fs) (hpos:∀t,t<n->∀b∈p.bins.getD t [],b≠0) {t:Nat} (ht:t<n) (hs:isStrip (y.nodes.getD t default).kd=true):
  nz ((stepY y p cs fs).1.slots.getD t [])++outY y p cs fs t=(innY y p cs fs t).map (bagY y p cs fs)++nz (p.slots.getD t []):=by
 have hl:=h.good.len
 rw[step_slot h ht,if_pos hs]
 have e1:=advL_nz (p.slots.getD t []) (atF fs t (y.nodes.getD t default).ln.toNat) (decide (0<=(LVo y p cs fs).getD t 0))
 have e2:nz [(advN y p fs (LVo y p cs fs) t).2]=outY y p cs fs t:=by
  show _=outB _ _ _ _ _ _
  rw[outB]
  split
  ·rename_i h0
   have:=bag_ne h hpos ht h0
   have e3:bagOf y.nodes p cs fs (LVo y p cs fs) t=(advN y p fs (LVo y p cs fs) t).2:=by rw[bagOf,if_pos hs];rfl
   rw[e3,nz_one (by rw[<-e3];exact this)]
  ·rename_i h0
   rw[bag_none (by omega)];rfl
 have e1':nz (advN y p fs (LVo y p cs fs) t).1++outY y p cs fs t=nz (p.slots.getD t []):=by rw[<-e2];exact e1
 rcases inn_strip h hs with h1|⟨m,hm,h0,hg,h1⟩
 ·rw[h1];exact e1'
 ·rw[h1]
  have hb:=bag_ne h hpos hm h0
  have hr:=(goes_room h hm h0 hg hs).1
  have hz:=advL_head (p.slots.getD t []) (atF fs t (y.nodes.getD t default).ln.toNat) (decide (0<=(LVo y p cs fs).getD t 0)) hr
  have hlen:(advN y p fs (LVo y p cs fs) t).1.length=(p.slots.getD t []).length:=advL_len _ _ _
  have hrow:=h.fp.row t (by omega)
  have hst:=h.fp.st t (by omega) hs
  rw[<-e1']
  have hz':(advN y p fs (LVo y p cs fs) t).1.getD 0 0=0:=hz
  generalize (advN y p fs (LVo y p cs fs) t).1=a at*
  cases a with
  |nil=>rw[List.length_nil] at hlen;omega
  |cons z r=>
   simp at hz'
   subst hz'
   simp only[List.foldl_cons,List.foldl_nil,List.set_cons_zero,List.map_cons,List.map_nil,nz_zero,nz_cons hb,List.cons_append,List.nil_append]
end
open Go.Plant
def sumN (f:Nat->Nat):Nat->Nat
 |0=>0
 |k+1=>sumN f k+f k
theorem sumN_congr {f g:Nat->Nat}:∀{k},(∀i,i<k->f i=g i)->sumN f k=sumN g k
 |0,_=>rfl
 |k+1,h=>by rw[sumN,sumN,sumN_congr fun i hi=>h i (by omega),h k (by omega)]
theorem sumN_add {f g:Nat->Nat}:∀k,sumN (fun i=>f i+g i) k=sumN f k+sumN g k
 |0=>rfl
 |k+1=>by rw[sumN,sumN,sumN,sumN_add k];omega
theorem sumN_zero:∀k,sumN (fun _=>0) k=0
 |0=>rfl
 |k+1=>by rw[sumN,sumN_zero k]
theorem sumN_swap {g:Nat->Nat->Nat} {M:Nat}:∀N,sumN (fun t=>sumN (fun m=>g t m) M) N=sumN (fun m=>sumN (fun t=>g t m) N) M
 |0=>by rw[sumN];exact(sumN_zero M).symm
 |N+1=>by
  rw[sumN,sumN_swap N,<-sumN_add]
  rfl
theorem sumN_one {c:Nat} {v:Nat}:∀{N},sumN (fun t=>if t=c then v else 0) N=if c<N then v else 0
 |0=>by simp[sumN]
 |N+1=>by
  rw[sumN,sumN_one]
  by_cases h:N=c
  ·subst h;simp
  ·rw[if_neg h]
   by_cases h2:c<N
   ·rw[if_pos h2,if_pos (by omega)];rfl
   ·rw[if_neg h2,if_neg (by omega)]
theorem count_range {q:Nat->Bool} {f:Nat->Int} {b:Int}:∀N,(((List.range N).filter q).map f).count b=sumN (fun m=>if q m=true/\f m=b then 1 else 0) N
 |0=>rfl
 |N+1=>by
  rw[List.range_succ,List.filter_append,List.map_append,List.count_append,count_range N,sumN]
  congr 1
  by_cases h:q N=true
  ·by_cases h2:f N=b
   ·simp[h,h2]
   ·simp[h,h2]
  ·simp[h]
def rowP (p:Pl) (t:Nat):List Int:=nz (p.slots.getD t [])++p.bins.getD t []
def allB (p:Pl):Nat->List Int
 |0=>[]
 |t+1=>allB p t++rowP p t
theorem allB_count (p:Pl) (b:Int):∀N,(allB p N).count b=sumN (fun t=>(rowP p t).count b) N
 |0=>rfl
 |N+1=>by rw[allB,List.count_append,allB_count p b N];rfl
theorem allB_mem {p:Pl} {b:Int}:∀{N},b∈allB p N↔∃t,t<N/\b∈rowP p t
 |0=>by simp[allB]
 |N+1=>by
  rw[allB,List.mem_append,allB_mem]
  constructor
  ·rintro(⟨t,h,h2⟩|h)
   ·exact⟨t,by omega,h2⟩
   ·exact⟨N,by omega,h⟩
  ·rintro⟨t,h,h2⟩
   by_cases ht:t=N
   ·subst ht;exact .inr h2
   ·exact .inl ⟨t,by omega,h2⟩
theorem allB_row_le {p:Pl} {t:Nat}:∀{N},t<N->(rowP p t).length<=(allB p N).length
 |N+1,h=>by
  rw[allB,List.length_append]
  by_cases ht:t=N
  ·subst ht;omega
  ·have:=allB_row_le (p:=p) (t:=t) (N:=N) (by omega);omega
theorem allB_nodup_row {p:Pl} {t:Nat}:∀{N},t<N->(allB p N).Nodup->(rowP p t).Nodup
 |N+1,h,hd=>by
  rw[allB,List.nodup_append] at hd
  by_cases ht:t=N
  ·subst ht;exact hd.2.1
  ·exact allB_nodup_row (by omega) hd.1
theorem putL_count {l:List Int} {x b:Int}:(putL l x).count b=l.count b+if x=b then 1 else 0:=by
 have h:l.count b=(l.takeWhile (fun y=>decide (y<x))).count b+(l.dropWhile (fun y=>decide (y<x))).count b:=by
  rw[<-List.count_append,List.takeWhile_append_dropWhile]
 rw[putL,List.count_append,List.count_append,h]
 by_cases hx:x=b
 ·simp[hx];omega
 ·simp[hx]
theorem putLs_count {b:Int} {f:Nat->Int}:∀{ms:List Nat} {l:List Int},(ms.foldl (fun r m=>putL r (f m)) l).count b=l.count b+(ms.map f).count b
 |[],l=>by simp
 |m::ms,l=>by
  rw[List.foldl_cons,putLs_count,putL_count,List.map_cons,List.count_cons]
  by_cases h:f m=b
  ·simp[h];omega
  ·simp[h]
theorem filter_ne_count {l:List Int} {c b:Int} (hd:l.Nodup) (hc:c∈l):(l.filter fun z=>!decide (z=c)).count b+(if c=b then 1 else 0)=l.count b:=by
 by_cases h:c=b
 ·subst h
  have h1:(l.filter fun z=>!decide (z=c)).count c=0:=by
   rw[List.count_eq_zero]
   intro h2
   have:=(List.mem_filter.1 h2).2
   simp at this
  rw[h1,List.Nodup.count hd,if_pos rfl,if_pos hc]
 ·rw[if_neg h,Nat.add_zero,List.count_filter]
  simp;exact fun h2=>h h2.symm
structure PInv (y:Ly) (p:Pl) (L:List Int):Prop where
 fp:FitP y.nodes p
 perm:(allB p y.nodes.length).Perm L
 srt:∀t,t<y.nodes.length->(p.bins.getD t []).Pairwise (·<=·)
structure LOk (L:List Int):Prop where
 nd:L.Nodup
 pos:∀b∈L,1<=b/\b<=40
 len:L.length<=40
section
variable {A n:Nat} {y:Ly} {p:Pl} {cs:List Int} {fs:List T3} {L:List Int}
theorem PInv.nd (h:PInv y p L) (hL:LOk L):(allB p y.nodes.length).Nodup:=(h.perm.nodup_iff).2 hL.nd
theorem PInv.mem (h:PInv y p L) {b:Int}:b∈allB p y.nodes.length↔b∈L:=h.perm.mem_iff
theorem PInv.rowpos (h:PInv y p L) (hL:LOk L) {t:Nat} (ht:t<y.nodes.length) {b:Int} (hb:b∈rowP p t):1<=b/\b<=40:=
 hL.pos b (h.mem.1 (allB_mem.2 ⟨t,ht,hb⟩))
theorem PInv.binpos (h:PInv y p L) (hL:LOk L) {t:Nat} (ht:t<y.nodes.length):∀b∈p.bins.getD t [],b≠0:=fun b hb=>by
 have:=h.rowpos hL ht (b:=b) (List.mem_append.2 (.inr hb));omega
theorem step_row (h:Sx A n y p cs fs) (hi:PInv y p L) (hL:LOk L) {t:Nat} (ht:t<n) (b:Int):
  (rowP (stepY y p cs fs).1 t).count b+(outY y p cs fs t).count b=((innY y p cs fs t).map (bagY y p cs fs)).count b+(rowP p t).count b:=by
 have hl:=h.good.len
 have hpos:∀t,t<n->∀b∈p.bins.getD t [],b≠0:=fun t ht=>hi.binpos hL (by omega)
 unfold rowP
 rw[List.count_append,List.count_append]
 by_cases hs:isStrip (y.nodes.getD t default).kd=true
 ·have h1:=congrArg (List.count b) (step_nz h hpos ht hs)
  rw[List.count_append,List.count_append] at h1
  rw[step_bin h ht,if_pos hs]
  omega
 ·rw[step_slot h ht,step_bin h ht,if_neg hs,if_neg hs,putLs_count]
  show _+(outB _ _ _ _ _ _).count b=_
  rw[outB]
  have hnd:(p.bins.getD t []).Nodup:=by
   have:=allB_nodup_row (by omega) (hi.nd hL) (p:=p) (t:=t)
   rw[rowP,List.nodup_append] at this
   exact this.2.1
  split
  ·rename_i h0
   obtain⟨a1,_⟩:=goes_cases h ht h0
   obtain⟨_,⟨k7,_,hb⟩|⟨hs2,_⟩⟩:=wnt_ok h ht a1
   ·have:=filter_ne_count (b:=b) hnd hb
    have e:(bagOf y.nodes p cs fs (LVo y p cs fs) t)=cs.getD t 0:=by rw[bagOf,if_neg hs]
    rw[e,List.count_singleton]
    simp only[beq_iff_eq]
    have e2:(if cs.getD t 0=b then 1 else 0)=(if cs.getD t 0=b then 1 else 0:Nat):=rfl
    omega
   ·exact absurd hs2 hs
  ·simp;omega
theorem step_perm (h:Sx A n y p cs fs) (hi:PInv y p L) (hL:LOk L):(allB (stepY y p cs fs).1 y.nodes.length).Perm L:=by
 have hl:=h.good.len
 refine List.Perm.trans ?_ hi.perm
 rw[List.perm_iff_count]
 intro b
 rw[allB_count,allB_count]
 have h1:sumN (fun t=>(rowP (stepY y p cs fs).1 t).count b+(outY y p cs fs t).count b) n=sumN (fun t=>((innY y p cs fs t).map (bagY y p cs fs)).count b+(rowP p t).count b) n:=sumN_congr fun t ht=>step_row h hi hL ht b
 rw[sumN_add,sumN_add] at h1
 have h2:sumN (fun t=>((innY y p cs fs t).map (bagY y p cs fs)).count b) n=sumN (fun t=>(outY y p cs fs t).count b) n:=by
  have e1:∀t,t<n->((innY y p cs fs t).map (bagY y p cs fs)).count b=sumN (fun m=>if t=(goesTo y.nodes (LVo y p cs fs) m).toNat then(if 0<=(LVo y p cs fs).getD m 0/\bagY y p cs fs m=b then 1 else 0) else 0) n:=fun t ht=>by
   show(((List.range y.nodes.length).filter _).map _).count b=_
   rw[count_range,hl]
   refine sumN_congr fun m hm=>?_
   simp only[Bool.and_eq_true,decide_eq_true_eq]
   by_cases h0:0<=(LVo y p cs fs).getD m 0
   ·obtain⟨_,g1,g2,_⟩:=goes_cases h hm h0
    by_cases hg:goesTo y.nodes (LVo y p cs fs) m=t
    ·simp[h0,hg]
    ·simp[hg,show ¬t=(goesTo y.nodes (LVo y p cs fs) m).toNat by omega]
   ·rw[if_neg (fun h2=>h0 h2.1.1)]
    split
    ·rw[if_neg (fun h2=>h0 h2.1)]
    ·rfl
  rw[sumN_congr e1,sumN_swap]
  refine sumN_congr fun m hm=>?_
  rw[sumN_one]
  show _=(outB _ _ _ _ _ _).count b
  rw[outB]
  by_cases h0:0<=(LVo y p cs fs).getD m 0
  ·obtain⟨_,g1,g2,_⟩:=goes_cases h hm h0
   rw[if_pos (by omega),if_pos h0,List.count_singleton]
   by_cases hb:bagOf y.nodes p cs fs (LVo y p cs fs) m=b
   ·rw[if_pos ⟨h0,hb⟩,if_pos (by simpa using hb)]
   ·rw[if_neg (fun h2=>hb h2.2),if_neg (by simpa using hb)]
  ·rw[if_neg h0,if_neg (fun h2:0<=(LVo y p cs fs).getD m 0/\bagY y p cs fs m=b=>h0 h2.1)]
   simp
 rw[hl]
 omega
theorem step_inv (h:Sx A n y p cs fs) (hi:PInv y p L) (hL:LOk L):PInv y (stepY y p cs fs).1 L:=by
 have hl:=h.good.len
 have hp:=step_perm h hi hL
 have hok:=st2_ok (ms:=(st1 y.nodes p cs fs (LVo y p cs fs) y.nodes.length).2.2) (st1_ok (cs:=cs) (fs:=fs) (LV:=LVo y p cs fs) hi.fp hi.srt _ (Nat.le_refl _)) (st1 y.nodes p cs fs (LVo y p cs fs) y.nodes.length).2.2.length
 refine⟨⟨hi.fp.xl,hok.l1,hok.l2,hok.r1,fun t ht=>?_,hi.fp.ln,hi.fp.st,hi.fp.ex⟩,hp,fun t ht=>(hok.r2 t ht).1⟩
 have h1:=allB_row_le (p:=(stepY y p cs fs).1) ht
 rw[hp.length_eq] at h1
 have:=hL.len
 have h2:((stepY y p cs fs).1.bins.getD t []).length<=(rowP (stepY y p cs fs).1 t).length:=by rw[rowP,List.length_append];omega
 omega
end
open Go.Plant
def upF (b:Int) (k:Nat):List Int:=(List.range k).map fun(i:Nat)=>b+i
theorem upF_succ (b:Int) (k:Nat):upF b (k+1)=upF b k++[b+k]:=by simp[upF,List.range_succ]
theorem upF_len (b:Int) (k:Nat):(upF b k).length=k:=by simp[upF]
theorem upF_mem {b e:Int} {k:Nat}:e∈upF b k↔b<=e/\e<b+k:=by
 simp only[upF,List.mem_map,List.mem_range]
 constructor
 ·rintro⟨i,h,rfl⟩;omega
 ·rintro⟨h1,h2⟩;exact⟨(e - b).toNat,by omega,by omega⟩
theorem upF_add (b:Int) (j:Nat):∀k,upF b (j+k)=upF b j++upF (b+j) k
 |0=>by simp[upF]
 |k+1=>by
  rw[<-Nat.add_assoc,upF_succ,upF_succ,upF_add b j k,List.append_assoc]
  congr 3
  omega
theorem upF_nodup (b:Int) (k:Nat):(upF b k).Nodup:=by
 unfold upF
 exact List.nodup_range.map (f:=fun(i:Nat)=>b+(i:Int)) (fun i j h hne=>h (by omega))
theorem free_nz (s:List Int):free s+(nz s).length=s.length:=by
 unfold free nz
 induction s with
 |nil=>rfl
 |cons b r ih=>
  by_cases h:b=0
  ·subst h;simp at ih ⊢;omega
  ·simp[h] at ih ⊢;omega
theorem pwk_inv {l:List Int} {s:PW} {ln:Nat} (hw:s.w=List.replicate ln 0) (hb:1<=s.bag):∀k,k<=ln->∃u j,(pwk l s k).w=u++List.replicate (ln - k) 0/\u.length=k/\nz u=upF s.bag j/\(pwk l s k).bag=s.bag+j/\(pwk l s k).full=s.full - j/\(j=0\/(j:Int)<=s.full)
 |0,_=>⟨[],0,by simp[pwk,hw],rfl,rfl,by simp[pwk],by simp[pwk], .inl rfl⟩
 |k+1,hk=>by
  obtain⟨u,j,h1,h2,h3,h4,h5,h6⟩:=pwk_inv (l:=l) hw hb k (by omega)
  rw[pwk]
  generalize pwk l s k=r at*
  have er:List.replicate (ln - k) (0:Int)=0::List.replicate (ln - (k+1)) 0:=by
   rw[show ln - k=(ln - (k+1))+1 by omega,List.replicate_succ]
  have same:∃u' j',r.w=u'++List.replicate (ln - (k+1)) 0/\u'.length=k+1/\nz u'=upF s.bag j'/\r.bag=s.bag+j'/\r.full=s.full - j'/\(j'=0\/(j':Int)<=s.full):=
   ⟨u++[0],j,by rw[h1,er];simp,by simp[h2],by rw[nz_append,h3];simp,h4,h5,h6⟩
  unfold pw1
  split
  ·rename_i hc
   split
   ·refine⟨u++[r.bag],j+1,?_,by simp[h2],?_,by simp only;omega,by simp only;omega, .inr (by omega)⟩
    ·simp only
     rw[h1,er,List.set_append_right _ _ (by omega),h2]
     simp
    ·rw[nz_append,h3,nz_cons (by omega),upF_succ,h4];rfl
   ·exact same
  ·exact same
theorem allB_congr {p q:Pl}:∀{N},(∀t,t<N->rowP p t=rowP q t)->allB p N=allB q N
 |0,_=>rfl
 |N+1,h=>by rw[allB,allB,allB_congr fun t ht=>h t (by omega),h N (by omega)]
theorem getD_snoc {α:Type} {l:List α} {x d:α} {t:Nat}:(l++[x]).getD t d=if t<l.length then l.getD t d else if t=l.length then x else d:=by
 simp only[List.getD_eq_getElem?_getD,List.getElem?_append]
 split
 ·rfl
 ·split
  ·rename_i h;subst h;simp
  ·rw[List.getElem?_eq_none (by simp;omega)];rfl
structure PnOk (xs:List Nd) (s:PN) (i:Nat):Prop where
 bag:1<=s.bag
 sl:s.slots.length=i
 bl:s.bins.length=i
 all:allB ⟨s.slots,s.bins⟩ i=upF 1 (s.bag - 1).toNat
 row:∀t,t<i->(s.slots.getD t []).length=(xs.getD t default).ln.toNat/\((xs.getD t default).kd=5->1<=free (s.slots.getD t []))/\(s.bins.getD t []).length<=1
theorem pns_inv {l:List Int} {xs:List Nd} {n:Int} {a:Nat} (hx:∀i,i<xs.length->0<=(xs.getD i default).ln/\((xs.getD i default).kd=5->2<=(xs.getD i default).ln)):∀i,i<=xs.length->PnOk xs (pns l xs n a i) i
 |0,_=>⟨Int.le_refl _,rfl,rfl,rfl,fun t h=>absurd h (Nat.not_lt_zero _)⟩
 |i+1,hi=>by
  obtain⟨h1,h2,h3,h4,h5⟩:=pns_inv (l:=l) (n:=n) (a:=a) hx i (by omega)
  have hxi:=hx i (by omega)
  rw[pns]
  generalize pns l xs n a i=s at*
  generalize hxe:xs.getD i default=x at*
  obtain⟨u,j,g1,g2,g3,g4,g5,g6⟩:=pwk_inv (l:=l) (s:=pw0 x s) (ln:=x.ln.toNat) rfl h1 _ (Nat.le_refl _)
  generalize pwk l (pw0 x s) x.ln.toNat=r at*
  have e0:(pw0 x s).bag=s.bag:=rfl
  have ef:(pw0 x s).full=if x.kd=5 then x.ln - 1 else x.ln:=rfl
  rw[e0] at g3 g4
  simp only[Nat.sub_self,List.replicate_zero,List.append_nil] at g1
  have hwl:r.w.length=x.ln.toNat:=by rw[g1,g2]
  have hnz:nz r.w=upF s.bag j:=by rw[g1,g3]
  have hfree:x.kd=5->1<=free r.w:=fun h5=>by
   have e1:=free_nz r.w
   rw[hwl,hnz,upF_len] at e1
   have:=hxi.2 h5
   rw[ef,if_pos h5] at g6
   omega
  have key:∀(bin:List Int) (b:Int) (k:Nat) (nn:Int) (aa:Nat),bin=upF r.bag k->k<=1->b=r.bag+k->PnOk xs ⟨s.slots++[r.w],s.bins++[bin],b,nn,aa⟩ (i+1):=by
   intro bin b k nn aa hbin hk hb
   have hrow:∀t,t<i->rowP ⟨s.slots++[r.w],s.bins++[bin]⟩ t=rowP ⟨s.slots,s.bins⟩ t:=fun t ht=>by
    simp only[rowP,getD_snoc,h2,h3,if_pos ht]
   have hrow2:rowP ⟨s.slots++[r.w],s.bins++[bin]⟩ i=nz r.w++bin:=by
    simp only[rowP,getD_snoc,h2,h3,Nat.lt_irrefl,if_false,if_true]
   refine⟨by simp only;omega,by simp[h2],by simp[h3],?_,fun t ht=>?_⟩
   ·simp only
    rw[allB,allB_congr hrow,h4,hrow2,hnz,hbin,g4]
    rw[show(b - 1).toNat=(s.bag - 1).toNat+(j+k) by omega,upF_add,upF_add,show(1:Int)+((s.bag - 1).toNat:Nat)=s.bag by omega]
   ·simp only[getD_snoc,h2,h3]
    by_cases ht2:t<i
    ·rw[if_pos ht2,if_pos ht2];exact h5 t ht2
    ·have:t=i:=by omega
     subst this
     rw[if_neg ht2,if_neg ht2,if_pos rfl,if_pos rfl,hxe]
     exact⟨hwl,hfree,by rw[hbin,upF_len];exact hk⟩
  unfold pn2
  split
  ·split
   ·exact key _ _ 1 _ _ (by simp[upF]) (Nat.le_refl _) (by simp)
   ·exact key _ _ 0 _ _ (by simp[upF]) (by omega) (by simp)
  ·exact key _ _ 0 _ _ (by simp[upF]) (by omega) (by simp)
structure GenP (y:Ly) (p:Pl) (m:Nat):Prop where
 inv:PInv y p (upF 1 m)
 lp:∀t,t<y.nodes.length->(y.nodes.getD t default).kd=5->1<=free (p.slots.getD t [])
theorem upF_ok {m:Nat} (h:m<=40):LOk (upF 1 m):=⟨upF_nodup _ _,fun b hb=>by have:=upF_mem.1 hb;omega,by rw[upF_len];exact h⟩
theorem gPl_gen {A N:Nat} {y:Ly} (hg:Good A N y) (l:List Int) (a:Nat) (n:Int) (hn:0<=n):∃m:Nat,(m:Int)<=n/\allB (gPl l a y.nodes n).1 y.nodes.length=upF 1 m/\GenP y (gPl l a y.nodes n).1 m:=by
 have hN:=hg.n11
 have hl:=hg.len
 have hx:∀i,i<y.nodes.length->0<=(y.nodes.getD i default).ln/\(y.nodes.getD i default).ln<=4/\((y.nodes.getD i default).kd=5->2<=(y.nodes.getD i default).ln):=fun i hi=>by
  have hs:=hg.shp i (by omega)
  have h1:=hs.ln
  have h2:=hs.l5
  have h3:=hs.l0
  omega
 have h1:=pns_inv (l:=l) (n:=n) (a:=a) (fun i hi=>⟨(hx i hi).1,(hx i hi).2.2⟩) y.nodes.length (Nat.le_refl _)
 have h2:=pns_ok (l:=l) (a:=a) hn (fun i hi=>(hx i hi).1) y.nodes.length (Nat.le_refl _)
 obtain⟨g1,g2,g3,g4,g5⟩:=h1
 refine⟨((pns l y.nodes n a y.nodes.length).bag - 1).toNat,by omega,g4,⟨⟨by omega,g2,g3,fun t ht=>(g5 t ht).1,fun t ht=>?_,fun t ht=>?_,fun t ht hs=>?_,fun t ht=>?_⟩,?_,fun t ht=>?_⟩,fun t ht=>(g5 t ht).2.1⟩
 ·have:=(g5 t ht).2.2
  show((pns l y.nodes n a y.nodes.length).bins.getD t []).length<=500
  omega
 ·have:=hx t ht;omega
 ·have hs2:=(hg.shp t (by omega)).ln
  rw[isStrip,Bool.and_eq_true,decide_eq_true_eq,decide_eq_true_eq] at hs
  exact(hs2 hs.2).1
 ·have:=hg.exl (m:=t) (by omega)
  rw[exitsN] at this
  split at this
  ·omega
  ·split at this<;>omega
 ·show(allB ⟨_,_⟩ _).Perm _
  rw[g4]
 ·have:=(g5 t ht).2.2
  show((pns l y.nodes n a y.nodes.length).bins.getD t []).Pairwise (·<=·)
  generalize (pns l y.nodes n a y.nodes.length).bins.getD t []=b at*
  match b,this with
  |[],_=>exact .nil
  |[x],_=>simp
  |x::z::w,h=>simp at h
open Go.Plant
theorem cmd1_ok {A n:Nat} {y:Ly} (hg:Good A n y) (l:List Int) (a:Nat) {i:Nat} (hi:i<n):cmdOk (y.nodes.getD i default) (cmd1 l (y.nodes.getD i default) a).1=true:=by
 have hs:=hg.shp i hi
 have he:=hg.exl hi
 generalize y.nodes.getD i default=x at*
 obtain⟨k1,k2⟩:=hs.kd
 unfold cmd1
 by_cases c7:x.kd=7
 ·rw[if_pos c7,cmdOk,if_pos c7]
  have:=gN_lt (l:=l) (a:=a) (n:=8) (by omega)
  simp;omega
 rw[if_neg c7]
 by_cases c8:x.kd=8\/x.kd=9
 ·rw[if_pos c8,cmdOk,if_neg c7,if_pos (by simp[isStrip];omega)];rfl
 rw[if_neg c8]
 have hst:¬isStrip x.kd=false:=by simp[isStrip];omega
 by_cases c5:x.kd=5
 ·rw[if_pos c5,cmdOk,if_neg c7,if_neg hst]
  have hm:=gP_mem (l:=l) (a:=a) (es:=[1,1,0]) (by simp)
  simp only[List.mem_cons,List.not_mem_nil,or_false] at hm
  simp only
  rw[if_neg (by omega)]
  rw[exitsN,if_pos (by omega)] at he
  simp;omega
 rw[if_neg c5]
 by_cases c4:x.kd=4\/x.kd=6
 ·rw[if_pos c4,cmdOk,if_neg c7,if_neg hst]
  have hm:=gP_mem (l:=l) (a:=a) (es:=[1,0,1,0,-1]) (by simp)
  simp only[List.mem_cons,List.not_mem_nil,or_false] at hm
  simp only
  rw[exitsN,if_pos (by omega)] at he
  split
  ·simp[c5]
  ·simp;omega
 ·rw[if_neg c4,cmdOk,if_neg c7,if_neg hst]
  have hm:=gP_mem (l:=l) (a:=a) (es:=[0,0,0,0,-1]) (by simp)
  simp only[List.mem_cons,List.not_mem_nil,or_false] at hm
  simp only
  rw[exitsN,if_neg (by omega),if_neg (by omega)] at he
  split
  ·simp[c5]
  ·simp;omega
theorem cmds_getD (l:List Int) (xs:List Nd) (a:Nat):∀i j,j<i->∃b,(cmds l xs a i).1.getD j 0=(cmd1 l (xs.getD j default) b).1
 |0,j,h=>absurd h (Nat.not_lt_zero _)
 |i+1,j,h=>by
  rw[cmds,getD_snoc,cmds_length]
  by_cases hj:j<i
  ·rw[if_pos hj];exact cmds_getD l xs a i j hj
  ·have:j=i:=by omega
   subst this
   rw[if_neg hj,if_pos rfl];exact⟨_,rfl⟩
theorem gC_ok {A n:Nat} {y:Ly} (hg:Good A n y) (l:List Int) (a:Nat):(gC l a y.nodes).1.length=n/\∀i,i<n->cmdOk (y.nodes.getD i default) ((gC l a y.nodes).1.getD i 0)=true:=by
 refine⟨by rw[gC,cmds_length,hg.len],fun i hi=>?_⟩
 obtain⟨b,hb⟩:=cmds_getD l y.nodes a y.nodes.length i (by rw[hg.len];exact hi)
 rw[gC,hb]
 exact cmd1_ok hg l b hi
structure FtOk (xs:List Nd) (fs:List T3):Prop where
 ok:∀f∈fs,(f.a=1\/f.a=2)/\0<=f.b/\f.b<xs.length/\0<=f.c/\f.c<(xs.getD f.b.toNat default).ln
 dif:fs.Pairwise fun f g=>¬(g.b=f.b/\g.c=f.c)
theorem mvs_ok {A n:Nat} {y:Ly} (hg:Good A n y) (l:List Int) (a:Nat):∀k,FtOk y.nodes (mvs l y.nodes a k).1
 |0=>⟨by simp[mvs],by simp[mvs]⟩
 |k+1=>by
  obtain⟨h1,h2⟩:=mvs_ok hg l a k
  have hn:=hg.n11
  have hl:=hg.len
  rw[mvs]
  generalize mvs l y.nodes a k=o at*
  unfold mv1
  simp only
  have hk:=gN_lt (l:=l) (a:=o.2) (n:=(y.nodes.length:Int)) (by omega)
  have hx:=hg.shp (gN l o.2 y.nodes.length).toNat (by omega)
  have hln:=hx.ln
  have hl0:=hx.l0
  split
  ·exact⟨h1,h2⟩
  ·rename_i hne
   have hw:=gN_lt (l:=l) (a:=o.2+2) (n:=(y.nodes.getD (gN l o.2 y.nodes.length).toNat default).ln) (by omega)
   have hr:=gR_lt (l:=l) (a:=o.2+1) (lo:=1) (hi:=2) (by omega)
   split
   ·exact⟨h1,h2⟩
   ·rename_i hany
    refine⟨fun f hf=>?_,List.pairwise_append.2 ⟨h2,by simp,fun f hf g hg2=>?_⟩⟩
    ·rcases List.mem_append.1 hf with hf|hf
     ·exact h1 f hf
     ·rw[List.mem_singleton] at hf
      subst hf
      simp only
      omega
    ·rw[List.mem_singleton] at hg2
     simp only[Bool.not_eq_true,List.any_eq_false] at hany
     have:=hany f hf
     subst hg2
     rw[sameW,Bool.and_eq_false_iff,decide_eq_false_iff_not,decide_eq_false_iff_not] at this
     simp only
     rintro⟨e1,e2⟩
     exact this.elim (fun h=>h e1.symm) (fun h=>h e2.symm)
theorem FtOk.fit {xs:List Nd} {fs:List T3} (h:FtOk xs fs) (hl:fs.length<=1000):FitF xs fs:=by
 refine⟨hl,fun i hi n hn hb=>?_⟩
 have:=h.ok _ (mem_getD (d:=default) hi)
 rw[hb,Int.toNat_natCast] at this
 exact this.2.2.2
theorem FtOk.dup {xs:List Nd} {fs:List T3} (h:FtOk xs fs):dupF fs=false:=by
 rw[dupF,List.any_eq_false]
 intro i hi
 rw[List.mem_range] at hi
 simp only[Bool.not_eq_true,List.any_eq_false,List.mem_range]
 intro k hk
 have:=pw_getD (d:=default) h.dif hk hi
 simp only[Bool.not_eq_true,Bool.and_eq_false_iff,decide_eq_false_iff_not]
 by_cases h1:(fs.getD i default).b=(fs.getD k default).b
 ·exact .inr fun h2=>this ⟨h1,h2⟩
 ·exact .inl h1
open Go.Plant
section
variable {A n:Nat} {y:Ly} {p:Pl} {cs:List Int} {fs:List T3}
theorem step_moved_len (h:Sx A n y p cs fs):(stepY y p cs fs).2.length<=n:=by
 rw[step_moved h]
 refine Nat.le_trans (List.length_filter_le _ _) ?_
 rw[List.length_map]
 refine Nat.le_trans (List.length_filter_le _ _) ?_
 rw[List.length_range];exact Nat.le_refl _
end
open Go.Plant
section
variable {α:Type} {f:α->α} {l:List α} {k:Nat} {d:α}
end
def b20 (x:Int):Int:=x+20
def rnB (r:List Int):List Int:=r.map b20
open Go.Plant
theorem atL_stuck {fs:List T3} {n:Int} {ln k j:Nat} (hb:(fs.getD j default).b=n) (hc:(fs.getD j default).c.toNat=k) (ha:(fs.getD j default).a=1) (hk:k<ln)
  (hu:∀i,i<fs.length->i≠j->(fs.getD i default).b=n->(fs.getD i default).c.toNat≠k):∀i,i<=fs.length->j<i->(atL fs n ln i).getD k 0=1
 |0,_,h=>absurd h (Nat.not_lt_zero _)
 |i+1,hi,h=>by
  have hl:=atL_length fs n ln i
  rw[atL]
  unfold atS
  by_cases hij:i=j
  ·subst hij
   rw[if_pos hb,getD_set2,if_pos ⟨hc,by omega⟩,ha]
  ·have ih:=atL_stuck hb hc ha hk hu i (by omega) (by omega)
   split
   ·rename_i h2
    rw[getD_set2,if_neg (fun h3=>hu i (by omega) hij h2 h3.1)]
    exact ih
   ·exact ih
theorem dup_ne {fs:List T3} (hd:dupF fs=false) {i j:Nat} (hi:i<fs.length) (hj:j<fs.length) (hne:i≠j):¬((fs.getD i default).b=(fs.getD j default).b/\(fs.getD i default).c=(fs.getD j default).c):=by
 have key:∀{i j:Nat},i<fs.length->j<i->¬((fs.getD i default).b=(fs.getD j default).b/\(fs.getD i default).c=(fs.getD j default).c):=by
  intro i j hi hj h
  rw[dupF,List.any_eq_false] at hd
  refine hd i (List.mem_range.2 hi) (List.any_eq_true.2 ⟨j,List.mem_range.2 hj,?_⟩)
  rw[decide_eq_true h.1,decide_eq_true h.2];rfl
 rcases Nat.lt_or_gt_of_ne hne with h|h
 ·exact fun h2=>key hj h ⟨h2.1.symm,h2.2.symm⟩
 ·exact key hi h
theorem atF_stuck {xs:List Nd} {fs:List T3} (hf:FitF xs fs) (hd:dupF fs=false) {m k:Nat} (hm:m<xs.length) (hk:k<(xs.getD m default).ln.toNat) (h:fs.any (fun z=>eqT ⟨1,m,k⟩ z)=true):
  (atF fs m (xs.getD m default).ln.toNat).getD k 0=1:=by
 obtain⟨z,hz,he⟩:=List.any_eq_true.1 h
 obtain⟨j,hj,rfl⟩:=List.getElem_of_mem hz
 have e:=eqT_iff.1 he
 have ej:fs.getD j default=⟨1,m,k⟩:=by rw[e];simp[hj]
 refine atL_stuck (j:=j) (by rw[ej]) (by rw[ej];simp) (by rw[ej]) hk (fun i hi hne hb hc=>?_) _ (Nat.le_refl _) hj
 have h1:=hf.ok i hi m hm hb
 refine dup_ne hd hi hj hne ⟨by rw[hb,ej],by rw[ej];show _=(k:Int);omega⟩
section
variable {A n:Nat} {y:Ly} {p:Pl} {cs:List Int} {fs:List T3}
theorem last_iff (h:Sx A n y p cs fs) (hd:dupF fs=false) (hpos:∀t,t<n->∀b∈p.bins.getD t [],b≠0) {m:Nat} (hm:m<n):
  (lastR (y.nodes.getD m default) (p.slots.getD m []) (p.bins.getD m []) (cs.getD m 0) fs m≠0↔0<=(WN y p cs fs).getD m 0)/\
  (0<=(WN y p cs fs).getD m 0->(WN y p cs fs).getD m 0=wantR (y.nodes.getD m default) (cs.getD m 0)):=by
 have hl:=h.good.len
 have hck:=h.cmd m hm
 have hst:=h.fp.st m (by omega)
 have hps:=hpos m hm
 rw[WN,wnts_getD (by omega),wntP,lastR,wantR]
 by_cases k7:(y.nodes.getD m default).kd=7
 ·rw[if_pos k7,if_pos k7,if_pos k7]
  by_cases hc:cs.getD m 0∈p.bins.getD m []
  ·have e:((p.bins.getD m []).any fun y=>decide (cs.getD m 0=y))=true:=List.any_eq_true.2 ⟨_,hc,decide_eq_true rfl⟩
   rw[if_pos hc,if_pos e]
   exact⟨⟨fun _=>by omega,fun _=>hps _ hc⟩,fun _=>rfl⟩
  ·have e:¬((p.bins.getD m []).any fun y=>decide (cs.getD m 0=y))=true:=fun h2=>by
    obtain⟨z,hz,hez⟩:=List.any_eq_true.1 h2
    rw[of_decide_eq_true hez] at hc;exact hc hz
   rw[if_neg hc,if_neg e]
   exact⟨⟨fun h=>absurd rfl h,fun h=>by omega⟩,fun h=>by omega⟩
 ·rw[if_neg k7,if_neg k7,if_neg k7]
  cases hs:isStrip (y.nodes.getD m default).kd with
  |false=>
   rw[if_pos (.inl rfl),if_pos rfl]
   exact⟨⟨fun h=>absurd rfl h,fun h=>by omega⟩,fun h=>by omega⟩
  |true=>
   have hst:=hst hs
   rw[cmdOk,if_neg k7,if_neg (by rw[hs];simp)] at hck
   have e1:((y.nodes.getD m default).ln - 1:Int)=(((y.nodes.getD m default).ln.toNat - 1:Nat):Int):=by omega
   rw[if_neg (show ¬(true=false) by simp),e1]
   by_cases hstk:(fs.any fun z=>eqT ⟨1,m,(((y.nodes.getD m default).ln.toNat - 1:Nat):Int)⟩ z)=true
   ·have:=atF_stuck (m:=m) (k:=(y.nodes.getD m default).ln.toNat - 1) h.ff hd (by omega) (by omega) hstk
    rw[if_pos (.inr (.inr this)),if_pos (.inr hstk)]
    exact⟨⟨fun h=>absurd rfl h,fun h=>by omega⟩,fun h=>by omega⟩
   ·have hfr:=atF_free (m:=m) (k:=(y.nodes.getD m default).ln.toNat - 1) (ln:=(y.nodes.getD m default).ln.toNat) h.ff (by omega) (by simpa using hstk)
    by_cases hcm:cs.getD m 0=-1
    ·rw[if_pos (.inr (.inl hcm))]
     refine⟨⟨fun h=>absurd rfl h,fun h=>?_⟩,fun h=>?_⟩
     ·split at h<;>omega
     ·split at h<;>omega
    ·rw[if_neg hcm,Bool.and_eq_true,decide_eq_true_eq,decide_eq_true_eq] at hck
     rw[if_neg (show ¬(true=false\/cs.getD m 0=-1\/(atF fs m (y.nodes.getD m default).ln.toNat).getD ((y.nodes.getD m default).ln.toNat - 1) 0=1) from fun h=>by
      rcases h with h|h|h
      ·cases h
      ·exact hcm h
      ·exact hfr h)]
     by_cases h0:(p.slots.getD m []).getD ((y.nodes.getD m default).ln.toNat - 1) 0=0
     ·rw[if_pos (.inl h0)]
      exact⟨⟨fun h=>absurd h0 h,fun h=>by omega⟩,fun h=>by omega⟩
     ·rw[if_neg (fun h=>by rcases h with h|h;exact h0 h;exact hstk h)]
      exact⟨⟨fun _=>hck.1,fun _=>h0⟩,fun _=>rfl⟩
theorem lv_before {lv:List Int} {xs:List Nd} {W:List Int} (hu:Ups xs W) {m:Nat} (hm:m<xs.length) (h:InvLV xs p W lv (m+1)):(lv.getD m 0=-1\/0<=lv.getD m 0)/\((xs.getD m default).kd=5->lv.getD m 0≠0):=by
 by_cases h1:W.getD m 0<0\/tgI xs W m<((m+1:Nat):Int)
 ·have:=h.neg m hm (by omega) h1
  exact⟨.inl this,fun _=>by omega⟩
 ·have h0:0<=W.getD m 0:=by omega
  have h2:((m+1:Nat):Int)<=tgI xs W m:=by omega
  rcases h.mid m hm (by omega) h0 h2 with ⟨h3,_⟩|⟨h3,_⟩
  ·refine⟨.inr (by omega),fun h5 h6=>?_⟩
   have:=hu.lp m hm h5 (by omega)
   omega
  ·exact⟨.inl h3,fun _=>by omega⟩
theorem inv_before {xs:List Nd} {W:List Int} (hu:Ups xs W) {c:Nat} (hc:c<=xs.length):InvLV xs p W (flF xs p W (upL xs.length) c).1 (xs.length - c):=by
 induction c with
 |zero=>
  refine⟨negs_len _,fun m h1 h2=>by omega,fun m h1 h2 h3=>?_,fun m h1 h2 h3 h4=>?_⟩
  ·simp[flF,negs,h1]
  ·have:=(hu.up m h1 h3).2;omega
 |succ c ih=>
  have h1:=ih (by omega)
  rw[flF,upL_len,upL_getD (by omega),Int.toNat_natCast]
  have e:xs.length - c=(xs.length - 1 - c)+1:=by omega
  rw[e] at h1
  have:=flS_inv hu (by omega) h1
  rw[show xs.length - (c+1)=xs.length - 1 - c by omega]
  exact this
end
def upto (xs:List Nd) (W:List Int) (t:Nat) (lv:List Int):Nat->List Int
 |0=>lv
 |k+1=>if cmr xs W t k=true then(upto xs W t lv k).set k (W.getD k 0) else upto xs W t lv k
theorem upto_len {xs:List Nd} {W:List Int} {t:Nat} {lv:List Int}:∀k,(upto xs W t lv k).length=lv.length
 |0=>rfl
 |k+1=>by rw[upto];split<;>simp[upto_len k]
theorem upto_getD {xs:List Nd} {W:List Int} {t:Nat} {lv:List Int} {j:Nat} (hj:j<lv.length):∀k,(upto xs W t lv k).getD j 0=if j<k/\cmr xs W t j=true then W.getD j 0 else lv.getD j 0
 |0=>by rw[if_neg (fun h=>absurd h.1 (Nat.not_lt_zero _))];rfl
 |k+1=>by
  have hl:=upto_len (xs:=xs) (W:=W) (t:=t) (lv:=lv) k
  rw[upto]
  by_cases hjk:j=k
  ·subst hjk
   by_cases hc:cmr xs W t j=true
   ·rw[if_pos hc,getD_set2,if_pos ⟨rfl,by omega⟩,if_pos ⟨by omega,hc⟩]
   ·rw[if_neg hc,upto_getD hj j,if_neg (fun h=>hc h.2),if_neg (fun h=>hc h.2)]
  ·have e:(j<k+1/\cmr xs W t j=true)=(j<k/\cmr xs W t j=true):=by
    refine propext ⟨fun h=>⟨by omega,h.2⟩,fun h=>⟨by omega,h.2⟩⟩
   split
   ·rw[getD_set2,if_neg (fun h=>hjk h.1.symm),upto_getD hj k];simp only[e]
   ·rw[upto_getD hj k];simp only[e]
theorem upto_all {xs:List Nd} {W:List Int} {t:Nat} {lv:List Int} (h11:xs.length<=11) (hw:W.length=xs.length) (hl:lv.length=xs.length):
  upto xs W t lv xs.length=tzR W (comN xs W t W.length) (comN xs W t W.length) lv:=by
 have hS:comN xs W t W.length<2048:=Nat.lt_of_lt_of_le (comN_lt xs W t W.length) (Nat.pow_le_pow_right (by decide) (by omega:W.length<=11))
 refine List.ext_getElem (by rw[upto_len,tzR_len]) fun j h1 h2=>?_
 rw[upto_len] at h1
 have e1:=upto_getD (xs:=xs) (W:=W) (t:=t) h1 xs.length
 have e2:=tzR_getD W (k:=j) _ _ lv (Nat.le_refl _) hS h1 (by omega)
 rw[comN_bit] at e2
 have e3:(upto xs W t lv xs.length).getD j 0=(tzR W (comN xs W t W.length) (comN xs W t W.length) lv).getD j 0:=by
  rw[e1,e2,hw]
  by_cases hc:cmr xs W t j=true
  ·rw[if_pos ⟨by omega,hc⟩,if_pos (by rw[decide_eq_true (by omega),hc];rfl)]
  ·rw[if_neg (fun h=>hc h.2),if_neg (by simp[hc])]
 simpa[h1,h2,upto_len] using e3
theorem com_none {xs:List Nd} {W:List Int} {t:Nat} (hw:W.length=xs.length) (h:∀k,k<xs.length->cmr xs W t k=false):comN xs W t W.length=0:=by
 refine Nat.eq_of_testBit_eq fun j=>?_
 rw[comN_bit,Nat.zero_testBit]
 by_cases hj:j<W.length
 ·rw[h j (by omega),Bool.and_false]
 ·rw[decide_eq_false hj,Bool.false_and]
theorem com_first {xs:List Nd} {W:List Int} {t k:Nat} (h11:xs.length<=11) (hw:W.length=xs.length) (hk:k<xs.length) (hc:cmr xs W t k=true) (h:∀j,j<k->cmr xs W t j=false):
  comN xs W t W.length≠0/\tz 11 (comN xs W t W.length)=k:=by
 have hS:comN xs W t W.length<2048:=Nat.lt_of_lt_of_le (comN_lt xs W t W.length) (Nat.pow_le_pow_right (by decide) (by omega:W.length<=11))
 have hb:(comN xs W t W.length).testBit k=true:=by rw[comN_bit,hc,decide_eq_true (by omega)];rfl
 have h0:comN xs W t W.length≠0:=fun h0=>by rw[h0,Nat.zero_testBit] at hb;cases hb
 obtain⟨b1,_,b3⟩:=tz_bits hS h0
 have h1:=b3 k (by omega) hb
 refine⟨h0,?_⟩
 refine Decidable.byContradiction fun hne=>?_
 rw[comN_bit,h _ (by omega),Bool.and_false] at b1
 cases b1
theorem entR_getD (xs:List Nd) (p:Pl) {j:Nat}:∀{i},j<i->(entR xs p i).getD j false=openR (xs.getD j default) (p.slots.getD j [])
 |0,h=>absurd h (Nat.not_lt_zero _)
 |i+1,h=>by
  have hl:=entR_length xs p i
  rw[entR,List.getD_eq_getElem?_getD]
  by_cases hj:j=i
  ·subst hj
   rw[List.getElem?_append_right (by omega),hl,Nat.sub_self];rfl
  ·rw[List.getElem?_append_left (by omega),<-List.getD_eq_getElem?_getD]
   exact entR_getD xs p (by omega)
open Go.Plant
def run:List Int->List Int->Bool->List Int->List Int×Int
 |[],_,_,x=>(x,0)
 |b::r,fs,op,x=>
  if b=0 then(x.headD 0::(run r (fs.drop 1) op x.tail).1,(run r (fs.drop 1) op x.tail).2)
  else if r=[] then(if op=true/\fs.getD 0 0≠1 then([x.headD 0],b) else([b],0))
  else if fs.getD 0 0=1\/r.getD 0 0≠0 then(b::(run r (fs.drop 1) op x.tail).1,(run r (fs.drop 1) op x.tail).2)
  else if fs.getD 0 0=2/\1<r.length/\r.getD 1 0=0 then(x.headD 0::(run r (fs.drop 1) op (x.tail.set 1 b)).1,(run r (fs.drop 1) op (x.tail.set 1 b)).2)
  else(x.headD 0::(run r (fs.drop 1) op (x.tail.set 0 b)).1,(run r (fs.drop 1) op (x.tail.set 0 b)).2)
theorem run_set (op:Bool):∀(r fs x:List Int) (i:Nat) (v:Int),i<r.length->x.length=r.length->(∀j,j<=i->r.getD j 0=0)->run r fs op (x.set i v)=((run r fs op x).1.set i v,(run r fs op x).2)
 |[],_,_,_,_,h,_,_=>absurd h (Nat.not_lt_zero _)
 |b::r,fs,x,i,v,hi,hx,hz=>by
  have hb:b=0:=by simpa using hz 0 (Nat.zero_le _)
  subst hb
  cases x with
  |nil=>simp at hx
  |cons x0 x=>
   rw[run,if_pos rfl,run,if_pos rfl]
   cases i with
   |zero=>rfl
   |succ i=>
    have:=run_set op r (fs.drop 1) x i v (by simpa using hi) (by simpa using hx) (fun j hj=>by simpa using hz (j+1) (by omega))
    simp only[List.set_cons_succ,List.tail_cons,List.headD_cons]
    rw[this]
theorem run_adv (op:Bool):∀(r fs:List Int),run r fs op (List.replicate r.length 0)=advL r fs op
 |[],_=>rfl
 |b::r,fs=>by
  have ih:=run_adv op r (fs.drop 1)
  rw[List.length_cons,List.replicate_succ,run,advL]
  simp only[List.tail_cons,List.headD_cons]
  by_cases hb:b=0
  ·rw[if_pos hb,if_pos hb,ih]
  ·rw[if_neg hb,if_neg hb]
   by_cases hr:r=[]
   ·rw[if_pos hr,if_pos hr]
   ·have hlr:0<r.length:=List.length_pos_iff.2 hr
    rw[if_neg hr,if_neg hr]
    by_cases c1:fs.getD 0 0=1\/r.getD 0 0≠0
    ·rw[if_pos c1,if_pos c1,ih]
    ·rw[if_neg c1,if_neg c1]
     have h0:r.getD 0 0=0:=Decidable.byContradiction fun h=>c1 (.inr h)
     by_cases c2:fs.getD 0 0=2/\1<r.length/\r.getD 1 0=0
     ·rw[if_pos c2,if_pos c2,run_set op r _ _ 1 b c2.2.1 (by simp) (fun j hj=>by
       have:j=0\/j=1:=by omega
       rcases this with rfl|rfl
       ·exact h0
       ·exact c2.2.2),ih]
     ·rw[if_neg c2,if_neg c2,run_set op r _ _ 0 b hlr (by simp) (fun j hj=>by
       have:j=0:=by omega
       subst this;exact h0),ih]
theorem app_getD (a b:List Int) (i:Nat):(a++b).getD (a.length+i) 0=b.getD i 0:=getD_app a b i
theorem app_set (a b:List Int) (i:Nat) (x:Int):(a++b).set (a.length+i) x=a++b.set i x:=set_app a b i x
theorem adv_run (fs:List Int) (op:Bool):∀(r a u x:List Int),u.length=a.length->x.length=r.length->advR (a++r) fs op a.length=(u++x,0)->
  advR (a++r) fs op (a++r).length=(u++(run r (fs.drop a.length) op x).1,(run r (fs.drop a.length) op x).2)
 |[],a,u,x,hu,hx,h=>by
  rw[List.append_nil] at h ⊢
  rw[h];rfl
 |b::r,a,u,x,hu,hx,h=>by
  cases x with
  |nil=>simp at hx
  |cons x0 x=>
   have hxr:x.length=r.length:=by simpa using hx
   have e:∀z:List Int,a++b::z=(a++[b])++z:=fun z=>by simp
   have el:(a++[b]).length=a.length+1:=by simp
   have hb0:(a++b::r).getD a.length 0=b:=by have:=app_getD a (b::r) 0;simpa using this
   have hf0:fs.getD a.length 0=(fs.drop a.length).getD 0 0:=by simp[List.getD_eq_getElem?_getD]
   have hd1:fs.drop (a.length+1)=(fs.drop a.length).drop 1:=by rw[List.drop_drop]
   have hlen:(a++b::r).length=a.length+r.length+1:=by simp;omega
   have hst:advR (a++b::r) fs op (a.length+1)=advS (a++b::r) fs op a.length (u++x0::x,0):=by rw[advR,h]
   have next:∀y0 y:_,y.length=r.length->advR (a++b::r) fs op (a.length+1)=(u++y0::y,0)->advR (a++b::r) fs op (a++b::r).length=(u++y0::(run r ((fs.drop a.length).drop 1) op y).1,(run r ((fs.drop a.length).drop 1) op y).2):=fun y0 y hy h2=>by
    have:=adv_run fs op r (a++[b]) (u++[y0]) y (by simp[hu]) hy (by rw[el,<-e,h2];simp)
    rw[<-e,el,hd1] at this
    rw[this];simp
   rw[advS,hb0] at hst
   rw[run]
   simp only[List.tail_cons,List.headD_cons]
   by_cases hb:b=0
   ·rw[if_pos hb] at hst ⊢
    exact next x0 x hxr hst
   ·rw[if_neg hb] at hst ⊢
    have hset:∀(z:List Int) (i:Nat) (v:Int),(u++z).set (a.length+i) v=u++z.set i v:=fun z i v=>by rw[<-hu];exact app_set u z i v
    by_cases hr:r=[]
    ·subst hr
     obtain rfl:x=[]:=by simpa using hxr
     have hnl:¬a.length+1<(a++[b]).length:=by simp
     rw[if_neg hnl,hf0] at hst
     rw[if_pos rfl,el,hst]
     split
     ·rfl
     ·have:=hset [x0] 0 b
      simp only[Nat.add_zero] at this
      rw[this];rfl
    ·have hlr:0<r.length:=List.length_pos_iff.2 hr
     rw[if_pos (by rw[hlen];omega)] at hst
     rw[if_neg hr]
     have h1:(a++b::r).getD (a.length+1) 0=r.getD 0 0:=app_getD a (b::r) 1
     have h2:(a++b::r).getD (a.length+2) 0=r.getD 1 0:=app_getD a (b::r) 2
     by_cases c1:(fs.drop a.length).getD 0 0=1\/r.getD 0 0≠0
     ·have ht:tgt (a++b::r) fs a.length=a.length:=by
       rw[tgt,hf0,h1]
       first|rw[if_pos c1]|(rcases c1 with c1|c1<;>simp[c1])
      rw[ht] at hst
      have:=hset (x0::x) 0 b
      simp only[Nat.add_zero,List.set_cons_zero] at this
      rw[this] at hst
      rw[if_pos c1]
      exact next b x hxr hst
     ·rw[if_neg c1]
      by_cases c2:(fs.drop a.length).getD 0 0=2/\1<r.length/\r.getD 1 0=0
      ·have ht:tgt (a++b::r) fs a.length=a.length+2:=by
        rw[tgt,hf0,h1,h2,hlen,if_neg c1,if_pos ⟨c2.1,by omega,c2.2.2⟩]
       rw[ht] at hst
       have:=hset (x0::x) 2 b
       simp only[List.set_cons_succ] at this
       rw[this] at hst
       rw[if_pos c2]
       exact next x0 (x.set 1 b) (by rw[List.length_set];exact hxr) hst
      ·have ht:tgt (a++b::r) fs a.length=a.length+1:=by
        rw[tgt,hf0,h1,h2,hlen,if_neg c1,if_neg (fun h=>c2 ⟨h.1,by omega,h.2.2⟩)]
       rw[ht] at hst
       have:=hset (x0::x) 1 b
       simp only[List.set_cons_succ] at this
       rw[this] at hst
       rw[if_neg c2]
       exact next x0 (x.set 0 b) (by rw[List.length_set];exact hxr) hst
theorem adv_eq (s fs:List Int) (op:Bool):adv s fs op=advL s fs op:=by
 have:=adv_run fs op s [] [] (List.replicate s.length 0) rfl (by simp) rfl
 simp only[List.nil_append,List.length_nil,List.drop_zero] at this
 rw[adv,this,run_adv]
open Go.Plant
section
variable {xs:List Nd} {p:Pl} {cs:List Int} {fs:List T3} {LV:List Int}
theorem st1_next {i:Nat} (h0:0<=LV.getD i 0):(st1 xs p cs fs LV (i+1)).2.2=(st1 xs p cs fs LV i).2.2++[mvOf xs p cs fs LV i]:=by
 rw[st1];simp only;rw[if_pos h0];rfl
theorem st1_stay {i:Nat} (h0:¬0<=LV.getD i 0):(st1 xs p cs fs LV (i+1)).2.2=(st1 xs p cs fs LV i).2.2:=by
 rw[st1];simp only;rw[if_neg h0]
theorem st1_at {i:Nat} (h0:0<=LV.getD i 0):∀{m},i<m->(st1 xs p cs fs LV i).2.2.length<(st1 xs p cs fs LV m).2.2.length/\(st1 xs p cs fs LV m).2.2.getD (st1 xs p cs fs LV i).2.2.length default=mvOf xs p cs fs LV i
 |0,h=>absurd h (Nat.not_lt_zero _)
 |m+1,h=>by
  by_cases hm:i=m
  ·subst hm
   rw[st1_next h0]
   refine⟨by simp,?_⟩
   rw[List.getD_eq_getElem?_getD,List.getElem?_append_right (Nat.le_refl _),Nat.sub_self];rfl
  ·obtain⟨h1,h2⟩:=st1_at h0 (m:=m) (by omega)
   by_cases c:0<=LV.getD m 0
   ·rw[st1_next c]
    refine⟨by rw[List.length_append];omega,?_⟩
    rw[List.getD_eq_getElem?_getD,List.getElem?_append_left h1,<-List.getD_eq_getElem?_getD]
    exact h2
   ·rw[st1_stay c];exact⟨h1,h2⟩
theorem st2_next {i N:Nat} {s:List (List Int)×List (List Int)} (h0:0<=LV.getD i 0) (hi:i<N) {q:List (List Int)×List (List Int)} (hq:st2 xs (st1 xs p cs fs LV N).2.2 s (st1 xs p cs fs LV i).2.2.length=q):
  st2 xs (st1 xs p cs fs LV N).2.2 s (st1 xs p cs fs LV (i+1)).2.2.length=if isStrip (xs.getD (goesTo xs LV i).toNat default).kd=true then(q.1.set (goesTo xs LV i).toNat ((q.1.getD (goesTo xs LV i).toNat []).set 0 (bagOf xs p cs fs LV i)),q.2)
   else(q.1,q.2.set (goesTo xs LV i).toNat (putL (q.2.getD (goesTo xs LV i).toNat []) (bagOf xs p cs fs LV i))):=by
 have e:(st1 xs p cs fs LV (i+1)).2.2.length=(st1 xs p cs fs LV i).2.2.length+1:=by rw[st1_next h0];simp
 rw[e,st2,(st1_at h0 hi).2,hq];rfl
end
def nodesE (xs:List Nd):Int:=match (List.range xs.length).find? (fun(i:Nat)=>!decide (nodeE xs.length i (xs.getD i default)=0)) with
 |some i=>nodeE xs.length i (xs.getD i default)
 |none=>0
theorem nodesE_bad {xs:List Nd} {i:Nat} (hi:i<xs.length) (h:∀j,j<i->nodeE xs.length j (xs.getD j default)=0) (hb:¬nodeE xs.length i (xs.getD i default)=0):nodesE xs=nodeE xs.length i (xs.getD i default):=by
 have:((List.range xs.length).find? fun(i:Nat)=>!decide (nodeE xs.length i (xs.getD i default)=0))=some i:=by
  rw[List.find?_eq_some_iff_getElem]
  refine⟨by simpa using hb,i,by simpa using hi,by simp,fun j hj=>?_⟩
  have:=h j hj
  simp only[List.getElem_range]
  simpa using this
 rw[nodesE,this]
theorem nodesE_ok {xs:List Nd} (h:∀j,j<xs.length->nodeE xs.length j (xs.getD j default)=0):nodesE xs=0:=by
 have:((List.range xs.length).find? fun(i:Nat)=>!decide (nodeE xs.length i (xs.getD i default)=0))=none:=by
  rw[List.find?_eq_none]
  intro i hi
  have:=h i (List.mem_range.1 hi)
  simpa using this
 rw[nodesE,this]
def entB (xs:List Nd):Bool:=xs.any fun x=>decide (x.kd=1)
def zonesB (xs:List Nd):Bool:=(List.range xs.length).all fun i=>zoneB xs (xs.getD i default)
def validE (y:Ly):Int:=
 if 24<y.nodes.length\/24<y.devs.length then 2
 else if ¬nodesE y.nodes=0 then nodesE y.nodes
 else if 80<total y.nodes then 2
 else if namedB y.nodes=false then 5
 else if zonesB y.nodes=false then 7
 else if(order y.nodes).length<y.nodes.length then 9
 else if ¬devE y.nodes y.devs=0 then devE y.nodes y.devs
 else if entB y.nodes=false then 6 else 0
theorem nodeE_len {N i:Int} {x:Nd} (h:nodeE N i x=0):0<=x.ln/\x.ln<=8/\leadP N i x=true:=by
 rw[nodeE] at h
 split at h
 ·cases h
 ·split at h
  ·cases h
  ·split at h
   ·rename_i h2
    obtain⟨h3,_,h4⟩:=h2
    refine⟨?_,?_,h4⟩<;>(unfold lenOk at h3;split at h3<;>(try split at h3)<;>simp at h3<;>omega)
   ·cases h
theorem nodeE_ex {N i:Int} {x:Nd} (h:nodeE N i x=0):∀k,k<x.ex.length->0<=x.ex.getD k 0/\x.ex.getD k 0<N:=by
 have:=(leadP_true.1 (nodeE_len h).2.2).2
 intro k hk
 have:=this k hk
 simp only[leadK,Bool.and_eq_true,decide_eq_true_eq] at this
 exact⟨this.1,this.2.1⟩
theorem ent_sat (x:Nd):SatG Tryz.prog tab 108 [] [x.av] [] (B (decide (x.kd=1))):=by
 refine uFN Tryz.func108 Tryz.ntmps108 ?_;intro w e X hC
 repeat refine uA ?_
 (refine awp_ret (ret1 uRT ?_);try rfl)
structure Sml7 (y:Ly):Prop where
 n:y.nodes.length<=1000
 d:y.devs.length<=1000
 x:∀i,i<y.nodes.length->(y.nodes.getD i default).ex.length<=1000
 nm:∀i,i<y.nodes.length->(bs (y.nodes.getD i default).nm).length<=1000
theorem validate_sat (y:Ly) (hs:Sml7 y):SatG Tryz.prog tab 62 [] [y.av] [] (I (validE y)):=by
 obtain⟨hN,hD,hx,hnm⟩:=hs
 have hnode:=fun i hi=>lnode_sat y i hi hN (hx i hi) (hnm i hi)
 have htot:=ltotal_sat y hN
 have hnam:=lnamed_sat y hN
 have hzon:=fun i hi=>lzoned_sat y i hi hN (hx i hi)
 have hsrt:=sorted_sat y hN hx
 have hdev:=ldevices_sat y hN hD
 have hcx:=cxfM_sat y.nodes 108 (fun x=>decide (x.kd=1)) hN (fun x _=>ent_sat x)
 have hE:validE y=_:=validE.eq_1 y
 generalize validE y=r at*
 refine uFN Tryz.func62 Tryz.ntmps62 ?_;intro w e X hC
 repeat refine uA ?_
 cases d1:decide (24<(y.nodes.length:Int)) with
 |true=>
  have h1:=of_decide_eq_true d1
  rw[if_pos (.inl (by omega))] at hE
  subst hE
  repeat first|refine uC ?_|refine uA1 @d1 ?_
  (refine awp_ret (ret1 uRT ?_);try rfl)
 |false=>
 have h1:=of_decide_eq_false d1
 cases d2:decide (24<(y.devs.length:Int)) with
 |true=>
  have h2:=of_decide_eq_true d2
  rw[if_pos (.inr (by omega))] at hE
  subst hE
  repeat first|refine uC ?_|refine uA1 (uI @d1 @d2) ?_
  (refine awp_ret (ret1 uRT ?_);try rfl)
 |false=>
 have h2:=of_decide_eq_false d2
 rw[if_neg (by omega)] at hE
 refine uR1 (uI @d1 @d2) ?_;intro K hK
 refine hK _ ?_;clear hK K
 refine uF ?_
 repeat refine uA ?_
 refine uW ?_
 refine awp_loopW (fun q:Nat×Nat=>⟨[(1, .ptO 101 1 0 0 0),(19,I y.nodes.length),(20,I q.2)],(101,some (1, .box [.sl (nds y.nodes) false, .sl (t3s y.devs) false]))::[],q.1⟩) (fun q=>q.2<=y.nodes.length/\∀j,j<q.2->nodeE y.nodes.length j (y.nodes.getD j default)=0) (fun q=>y.nodes.length - q.2) (_,0) ⟨Nat.zero_le _,fun j hj=>absurd hj (Nat.not_lt_zero _)⟩ (uKF) ?_
 rintro⟨ck,k⟩ ⟨hk,hj⟩
 simp only at hk hj
 repeat refine uA ?_
 refine uW ?_;refine condP _ rfl (fun h=>?_) (fun h=>?_)
 ·have hlt:k<y.nodes.length:=by omega
  have hbad:=nodesE_bad hlt hj
  have hsat:=hnode k hlt
  have hgood:nodeE y.nodes.length k (y.nodes.getD k default)=0->∀j,j<k+1->nodeE y.nodes.length j (y.nodes.getD j default)=0:=fun h j hj'=>by
   by_cases hji:j=k
   ·subst hji;exact h
   ·exact hj j (by omega)
  generalize nodeE y.nodes.length k (y.nodes.getD k default)=e at*
  refine uA ?_
  refine uR ?_;intro K hK
  refine callF uTS (hsat) uTS uTS uTS ?_;refine uS ?_
  refine hK _ ?_;clear hK K
  repeat refine uA ?_
  refine uW ?_;refine condP _ rfl (fun c1=>?_) (fun c1=>?_)
  ·rw[if_pos (by rw[hbad c1];exact c1),hbad c1] at hE
   subst hE
   repeat refine uA ?_
   (refine awp_ret (ret1 uRT ?_);try rfl)
  ·repeat refine uA ?_
   refine⟨(_,k+1),⟨by simp only;omega,hgood (Decidable.byContradiction c1)⟩,by simp only;omega,uKF⟩
 ·refine awp_exit ?_
  obtain rfl:k=y.nodes.length:=by omega
  rw[if_neg (by rw[nodesE_ok hj];simp)] at hE
  replace htot:=htot fun i hi=>⟨(nodeE_len (hj i hi)).1,by have:=(nodeE_len (hj i hi)).2.1;omega⟩
  replace hzon:=fun i hi=>hzon i hi fun k hk=>nodeE_ex (hj i hi) k hk
  replace hsrt:=hsrt fun i hi k hk=>nodeE_ex (hj i hi) k hk
  clear hj hnode
  have hzB:zonesB y.nodes=_:=zonesB.eq_1 y.nodes
  generalize total y.nodes=t at*
  generalize namedB y.nodes=nb at*
  generalize zonesB y.nodes=zb at*
  generalize order y.nodes=o at*
  generalize devE y.nodes y.devs=de at*
  have heB:entB y.nodes=_:=entB.eq_1 y.nodes
  rw[<-heB] at hcx
  generalize entB y.nodes=eb at*
  refine uR ?_;intro K hK
  refine callF uTS (htot) uTS uTS uTS ?_;refine uS ?_
  refine hK _ ?_;clear hK K
  refine uW ?_;refine condP _ rfl (fun c1=>?_) (fun c1=>?_)
  ·rw[if_pos c1] at hE
   subst hE
   repeat refine uA ?_
   (refine awp_ret (ret1 uRT ?_);try rfl)
  rw[if_neg c1] at hE
  refine uR ?_;intro K hK
  refine callF uTS (hnam) uTS uTS uTS ?_;refine uS ?_
  refine hK _ ?_;clear hK K
  cases nb with
  |false=>
   rw[if_pos rfl] at hE
   subst hE
   refine uT ?_
   repeat refine uA ?_
   (refine awp_ret (ret1 uRT ?_);try rfl)
  |true=>
  rw[if_neg (by decide)] at hE
  refine uF ?_
  repeat refine uA ?_
  refine uW ?_
  refine awp_loopW (fun q:Nat×Nat=>⟨[(1, .ptO 101 1 0 0 0),(40,I y.nodes.length),(41,I q.2)],(101,some (1, .box [.sl (nds y.nodes) false, .sl (t3s y.devs) false]))::[],q.1⟩) (fun q=>q.2<=y.nodes.length/\∀j,j<q.2->zoneB y.nodes (y.nodes.getD j default)=true) (fun q=>y.nodes.length - q.2) (_,0) ⟨Nat.zero_le _,fun j hj=>absurd hj (Nat.not_lt_zero _)⟩ (uKF) ?_
  rintro⟨ck2,k⟩ ⟨hk,hj⟩
  simp only at hk hj
  repeat refine uA ?_
  refine uW ?_;refine condP _ rfl (fun h2=>?_) (fun h2=>?_)
  ·have hlt:k<y.nodes.length:=by omega
   have hbad:=range_all_false (p:=fun i=>zoneB y.nodes (y.nodes.getD i default)) hlt
   try simp only at hbad
   rw[<-hzB] at hbad
   have hsat:=hzon k hlt
   have hgood:zoneB y.nodes (y.nodes.getD k default)=true->∀j,j<k+1->zoneB y.nodes (y.nodes.getD j default)=true:=fun h j hj'=>by
    by_cases hji:j=k
    ·subst hji;exact h
    ·exact hj j (by omega)
   generalize zoneB y.nodes (y.nodes.getD k default)=e at*
   refine uA ?_
   refine uR ?_;intro K hK
   refine callF uTS (hsat) uTS uTS uTS ?_;refine uS ?_
   refine hK _ ?_;clear hK K
   cases e with
   |false=>
    rw[if_pos (hbad rfl)] at hE
    subst hE
    refine uT ?_
    repeat refine uA ?_
    (refine awp_ret (ret1 uRT ?_);try rfl)
   |true=>
    refine uF ?_
    repeat refine uA ?_
    refine⟨(_,k+1),⟨by simp only;omega,hgood rfl⟩,by simp only;omega,uKF⟩
  ·refine awp_exit ?_
   rw[if_neg (by rw[hzB,range_all_true fun j hj'=>hj j (by omega)];decide)] at hE
   clear hj
   refine uE ?_;intro K hK
   refine callP uTS (hsrt) uTS uTS uTS ?_;refine uS ?_
   refine uH ?_
   refine hK _ ?_;clear hK K
   refine uW ?_;refine condP _ rfl (fun c2=>?_) (fun c2=>?_)
   ·rw[if_pos (by omega)] at hE
    subst hE
    repeat refine uA ?_
    (refine awp_ret (ret1 uRT ?_);try rfl)
   rw[if_neg (by omega)] at hE
   refine uR ?_;intro K hK
   refine callF uTS (hdev) uTS uTS uTS ?_;refine uS ?_
   refine hK _ ?_;clear hK K
   repeat refine uA ?_
   refine uW ?_;refine condP _ rfl (fun c3=>?_) (fun c3=>?_)
   ·rw[if_pos c3] at hE
    subst hE
    repeat refine uA ?_
    (refine awp_ret (ret1 uRT ?_);try rfl)
   rw[if_neg c3] at hE
   refine uR ?_;intro K hK
   refine callP uTS (hcx) uTS uTS uTS ?_;refine uS ?_
   refine hK _ ?_;clear hK K
   cases eb with
   |false=>
    rw[if_pos rfl] at hE
    subst hE
    refine uT ?_
    repeat refine uA ?_
    (refine awp_ret (ret1 uRT ?_);try rfl)
   |true=>
    rw[if_neg (by decide)] at hE
    subst hE
    refine uF ?_
    repeat refine uA ?_
    (refine awp_ret (ret1 uRT ?_);try rfl)
open Go.Plant
theorem lorder_sat (y:Ly) (hs:Sml7 y) (hv:validE y=0) (hr:∀i,i<y.nodes.length->∀j,j<(y.nodes.getD i default).ex.length->0<=(y.nodes.getD i default).ex.getD j 0/\(y.nodes.getD i default).ex.getD j 0<y.nodes.length):
  SatG Tryz.prog tab 76 [] [y.av] [] (IS (order y.nodes)):=by
 have h1:=validate_sat y hs
 rw[hv] at h1
 have h2:=sorted_sat y hs.n hs.x hr
 refine uFN Tryz.func76 Tryz.ntmps76 ?_;intro w e X hC
 refine uA ?_
 refine uR ?_;intro K hK
 refine callF uTS (h1) uTS uTS uTS ?_;refine uS ?_
 refine hK _ ?_;clear hK K
 refine uF ?_
 refine uR ?_;intro K hK
 refine callP uTS (h2) uTS uTS uTS ?_;refine uS ?_
 refine hK _ ?_;clear hK K
 (refine awp_ret (ret1 uRT ?_);try rfl)
theorem enew_sat (y:Ly) (hs:Sml7 y) (hv:validE y=0) (hr:∀i,i<y.nodes.length->∀j,j<(y.nodes.getD i default).ex.length->0<=(y.nodes.getD i default).ex.getD j 0/\(y.nodes.getD i default).ex.getD j 0<y.nodes.length):
  SatG Tryz.prog tab 44 [] [y.av] [] (.tup [.ptI (plB y (order y.nodes)),B true]):=by
 have h1:=validate_sat y hs
 rw[hv] at h1
 have h2:=lorder_sat y hs hv hr
 refine uFN Tryz.func44 Tryz.ntmps44 ?_;intro w e X hC
 refine uA ?_
 refine uR ?_;intro K hK
 refine callF uTS (h1) uTS uTS uTS ?_;refine uS ?_
 refine hK _ ?_;clear hK K
 refine uF ?_
 refine uD ?_;intro K hK
 refine callP uTS (h2) uTS uTS uTS ?_;refine uS ?_
 refine uH ?_
 refine hK _ ?_;clear hK K
 refine awp_ret ?_;rw[show Tryz.f44.results.toList=[.tmp 2, .tmp 3] from rfl];first|refine uRN ?_|exact uRM
open Go.Plant
theorem moved_ok (xs:List Nd) (p:Pl) (cs:List Int) (fs:List T3) (LV:List Int):(stepP xs p cs fs LV).2.Pairwise (fun a b=>a.b<b.b)/\(∀m∈(stepP xs p cs fs LV).2,0<=m.b/\m.b<xs.length)/\(stepP xs p cs fs LV).2.length<=xs.length:=by
 have e:(stepP xs p cs fs LV).2=(((List.range xs.length).filter fun m=>decide (0<=LV.getD m 0)).map (mvOf xs p cs fs LV)).filter fun m=>!decide (m.b=m.c):=by
  show List.filter _ (st1 _ _ _ _ _ _).2.2=_
  rw[st1_mv]
 rw[e]
 refine⟨List.Pairwise.filter _ (List.pairwise_map.2 (List.Pairwise.filter _ (List.Pairwise.imp ?_ List.pairwise_lt_range))),fun m hm=>?_,?_⟩
 ·intro a b h
  simp only[mvOf]
  omega
 ·have h1:=(List.mem_filter.1 hm).1
  obtain⟨k,hk,rfl⟩:=List.mem_map.1 h1
  have:=List.mem_range.1 (List.mem_filter.1 hk).1
  simp only[mvOf]
  omega
 ·refine Nat.le_trans (List.length_filter_le _ _) ?_
  rw[List.length_map]
  refine Nat.le_trans (List.length_filter_le _ _) ?_
  rw[List.length_range]
  exact Nat.le_refl _
theorem moved_asc (xs:List Nd) (p:Pl) (cs:List Int) (fs:List T3) (LV:List Int):Asc (stepP xs p cs fs LV).2:=by
 intro i hi
 have:=pw_getD (d:=default) (moved_ok xs p cs fs LV).1 (show i<i+1 by omega) hi
 omega
theorem moved_sml (xs:List Nd) (p:Pl) (cs:List Int) (fs:List T3) (LV:List Int) (h:xs.length<=1000):Sml (stepP xs p cs fs LV).2:=by
 intro i hi
 have:=(moved_ok xs p cs fs LV).2.1 _ (mem_getD (d:=default) hi)
 omega
theorem pstep_bad (y:Ly) (p:Pl) (cs:List Int) (fs:List T3) (hs:Sml7 y) (hv:validE y=0) (hr:ExOk y.nodes) (hp:FitP y.nodes p) (hc:cs.length<=1000) (hf:fs.length<=1000) (hb:¬possR y.nodes cs fs=0):
  SatG Tryz.prog tab 16 [] [y.av,p.av,IS cs, .sl (t3s fs) false] [] (.tup [(Pl.mk [] []).av, .sl [] false,I (possR y.nodes cs fs)]):=by
 have h1:=enew_sat y hs hv hr
 have h2:=fits_sat y p (order y.nodes) hp
 have h3:=refused_sat y (order y.nodes) cs fs hs.n hc hf hp.ex
 generalize possR y.nodes cs fs=e at*
 refine uFN Tryz.func16 Tryz.ntmps16 ?_;intro w e X hC
 refine uA ?_
 refine uR ?_;intro K hK
 refine callP uTS (h1) uTS uTS uTS ?_;refine uS ?_
 refine hK _ ?_;clear hK K
 refine uR ?_;intro K hK
 refine callF uTS (h2) uTS uTS uTS ?_;refine uS ?_
 refine hK _ ?_;clear hK K
 refine uF ?_
 refine uR ?_;intro K hK
 refine callF uTS (h3) uTS uTS uTS ?_;refine uS ?_
 refine hK _ ?_;clear hK K
 refine uR ?_;intro K hK
 refine hK _ ?_;clear hK K
 refine uW ?_;refine condP _ rfl (fun c=>?_) (fun c=>?_)
 ·repeat refine uA ?_
  refine awp_ret ?_;rw[show Tryz.f16.results.toList=[.cell 8 34, .tmp 9, .tmp 10] from rfl];first|refine uRN ?_|exact uRM
  rfl
 ·exact absurd hb c
theorem pstep_ok (y:Ly) (p:Pl) (cs:List Int) (fs:List T3) (hs:Sml7 y) (hv:validE y=0) (hr:ExOk y.nodes) (hp:FitP y.nodes p) (hb:possR y.nodes cs fs=0)
  (hN:y.nodes.length<=11) (hc:cs.length=y.nodes.length) (hf:FitF y.nodes fs)
  (hx:∀m,m<y.nodes.length->0<=(wnts y.nodes p cs fs y.nodes.length).getD m 0->(wnts y.nodes p cs fs y.nodes.length).getD m 0<(y.nodes.getD m default).ex.length)
  (hol:(order y.nodes).length<=1000) (hord:∀i,i<(order y.nodes).length->0<=(order y.nodes).getD i 0/\(order y.nodes).getD i 0<y.nodes.length) (LV EN:List Int)
  (hLl:LV.length=y.nodes.length) (hx1:LvOk y.nodes LV) (hbs:∀n,n<y.nodes.length->(p.bins.getD n []).Pairwise (·<=·)) (hLV:flows y.nodes p (wnts y.nodes p cs fs y.nodes.length) (order y.nodes)=(LV,EN)):
  SatG Tryz.prog tab 16 [] [y.av,p.av,IS cs, .sl (t3s fs) false] [] (.tup [(stepP y.nodes p cs fs LV).1.av, .sl (t3s (stepP y.nodes p cs fs LV).2) false,I 0]):=by
 have h1:=enew_sat y hs hv hr
 have h2:=fits_sat y p (order y.nodes) hp
 have h3:=refused_sat y (order y.nodes) cs fs hs.n (by omega) hf.len hp.ex
 have h4:=estep_sat y p (order y.nodes) cs fs hp hN hc hf hx hol hord LV EN hLl hx1 hr hbs hLV
 have h5:=(moved_ok y.nodes p cs fs LV).2.2
 have h6:=sortP_sat _ (by omega) (moved_asc y.nodes p cs fs LV) (moved_sml y.nodes p cs fs LV (by omega))
 rw[hb] at h3
 generalize stepP y.nodes p cs fs LV=r at*
 obtain⟨⟨q1,q2⟩,mv⟩:=r
 simp only at h4 h5 h6 ⊢
 refine uFN Tryz.func16 Tryz.ntmps16 ?_;intro w e X hC
 refine uA ?_
 refine uR ?_;intro K hK
 refine callP uTS (h1) uTS uTS uTS ?_;refine uS ?_
 refine hK _ ?_;clear hK K
 refine uR ?_;intro K hK
 refine callF uTS (h2) uTS uTS uTS ?_;refine uS ?_
 refine hK _ ?_;clear hK K
 refine uF ?_
 refine uR ?_;intro K hK
 refine callF uTS (h3) uTS uTS uTS ?_;refine uS ?_
 refine hK _ ?_;clear hK K
 refine uR ?_;intro K hK
 refine hK _ ?_;clear hK K
 refine uF ?_
 refine uR ?_;intro K hK
 have z:=(uI @Bool.or_true (uI @Bool.true_or @Bool.false_or));refine callE [] [(143,32,100,1),(401,32,101,1),(402,32,102,1)] false (h4) (uTR1 z) (uTR1 z) (uTE1 z) (uTE1 z) (uTE1 z) (uTE1 z) (uTE1 z) (uTE1 z) (uTE1 z) (uTE1 z) (uTE1 z) (uTE1 z) (uTE1 z) (uTE1 z) (uTE1 z) (uTE1 z) (uTE1 z) ?_;refine uQS1 z ?_;clear z
 refine hK _ ?_;clear hK K
 refine uR ?_;intro K hK
 refine callE [(0,0,402,32)] [(402,32,0,0)] true (h6) uTR uTR uTE uTE uTE uTE uTE uTE uTE uTE uTE uTE uTE uTE uTE uTE uTE ?_;refine uQS ?_
 refine hK _ ?_;clear hK K
 repeat refine uA ?_
 refine awp_ret ?_;rw[show Tryz.f16.results.toList=[.cell 8 34, .tmp 9, .tmp 10] from rfl];first|refine uRN ?_|exact uRM
end Go.Proofs.YtkhjenddapaejaaGreatDoor
