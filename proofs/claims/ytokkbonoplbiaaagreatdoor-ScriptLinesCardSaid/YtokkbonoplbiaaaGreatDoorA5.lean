/- Lemmas towards scriptLines_card: no conditions of their own beyond those that each one states. -/
import Derived.Test.YtokkbonoplbiaaaGreatDoorA4
import Derived.Below
set_option linter.all false
set_option linter.unusedSimpArgs false
set_option linter.unusedVariables false
set_option linter.deprecated false
namespace Go.Sym
open Go Go.Great Go.RowKit
theorem str_list (l:List UInt8):(strOf l).data.toList=l:=by simp[strOf]
theorem str_size (l:List UInt8):(strOf l).size=l.length:=by simp[strOf,ByteArray.size]
theorem str_eta (b:ByteArray):strOf b.data.toList=b:=by cases b;simp[strOf]
theorem str_app (a b:List UInt8):strOf a++strOf b=strOf (a++b):=by
 have h:(strOf a++strOf b).data.toList=a++b:=by simp[strOf]
 rw[<-str_eta (strOf a++strOf b),h]
theorem str_mk (l:List UInt8):ByteArray.mk l.toArray=strOf l:=rfl
def byts (l:List UInt8):List AV:=l.map byteE
theorem byts_length (l:List UInt8):(byts l).length=l.length:=by simp[byts]
theorem byts_cells {l:List UInt8}:∀y∈byts l,y.cells.length=1:=by
 intro y hy
 simp only[byts,List.mem_map] at hy
 obtain⟨b,_,rfl⟩:=hy
 rfl
theorem PE_byts (l:List UInt8):PE (byts l):=by
 intro y hy c hc
 simp only[byts,List.mem_map] at hy
 obtain⟨b,_,rfl⟩:=hy
 simp only[byteE,AV.cells,List.mem_singleton] at hc
 subst hc
 trivial
theorem byts_getD {l:List UInt8} {i:Nat} (h:i<l.length):(byts l).getD i .bad= .lit (.int .u8 ((l.getD i 0).toNat:Nat)):=by
 simp[byts,byteE,h]
theorem byts_bytes:∀(l:List UInt8),bytesOf (byts l)=some l
 |[]=>rfl
 |b::l=>by
  have ih:=byts_bytes l
  simp only[byts,List.map_cons,byteE] at ih ⊢
  simp[bytesOf,byteE,ih]
theorem lits_array {w:World} {e:Env} {U:Nat->Prop} {G:Nat->Prop} {vs:List Value} {vals:Array Value} (hlen:(vs.map AV.lit).length=vals.size)
  (hargs:∀i (h:i<(vs.map AV.lit).length),VR w U e G (vs.map AV.lit)[i] (vals.getD i undef)):vals=vs.toArray:=by
 apply Array.ext
 ·simpa using hlen.symm
 ·intro i h1 h2
  have hi:i<(vs.map AV.lit).length:=by omega
  have:=hargs i hi
  simp only[List.getElem_map] at this
  have:=this.lit_inv.1
  rw[Array.getD_eq_getD_getElem?,Array.getElem?_eq_getElem h1] at this
  simpa using this
theorem none_rel {w w':World} {e:Env} (hr:HRel w e (Glt 1) []) (hb:Below w.heap.size w w'):HRel w' e (Glt 2) []/\Ext w e (Glt 1) w' e (Glt 2):=by
 have hd:∀id,e id=none:=fun id=>hr.dead id rfl
 constructor
 ·constructor
  ·exact fun id _=>hd id
  ·intro id g ob h
   cases h
  ·intro id id' ee ee' b c c' h
   rw[hd id] at h;cases h
  ·intro id ee b c h
   rw[hd id] at h;cases h
  ·intro id ee b c h
   rw[hd id] at h;cases h
  ·intro b B c hk
   obtain⟨h1,h2,h3⟩:=hr.kl b B c hk
   exact⟨Nat.lt_of_lt_of_le h1 hb.size,Nat.lt_of_lt_of_le h2 hb.size,h3⟩
  ·exact hr.ko
  ·exact hr.kk
 ·refine Ext.mk' hb.size (fun g hg=>Nat.lt_of_lt_of_le hg (by omega)) rfl (fun _ _ h=>h) (fun b hlt _=>hb.block b hlt) ?_
  intro id ee h _
  rw[hd id] at h;cases h
theorem sat_plain {P:Program} {T:Tab} {f:FuncId} (hen:Enters P f) {vs:List Value} {r:AV}
  (h:∀(w:World) (U:Nat->Prop),GOk T w U->Calls P f vs.toArray w fun en w'=>∃v,en= .returned v/\(∀U',VD w' U' r v)/\Below w.heap.size w w'):SatG P T f [] (vs.map AV.lit) [] r:=by
 refine⟨hen,fun w e vals hr hz hg hlen hargs=>?_⟩
 obtain rfl:=lits_array hlen hargs
 refine(h w (UE e) hg).mono ?_
 rintro en w' ⟨v,rfl,hv,hb⟩
 obtain⟨h1,h2⟩:=none_rel hr hb
 exact⟨v,e,rfl,h1, .dat _ _ (hv _),h2,rfl,fun b hb=> .inr hb,⟨hb.os,hb.tape,hb.output,hb.size,fun b hlt _=>hb.block b hlt⟩⟩
theorem sat_own {P:Program} {T:Tab} {f:FuncId} (hen:Enters P f) {vs:List Value} {t:Nat} {es:List Value} (he:∀x∈es,x.oneCell'=true)
  (h:∀(w:World) (U:Nat->Prop),GOk T w U->Calls P f vs.toArray w fun en w'=>∃(B cap:Nat) (cs:Array Value),en= .returned (.slice (some ⟨B,0,none⟩) es.length cap)/\w.heap.size<=B/\w'.heap[B]?=some (.cells cs t (0,0))/\
   cs.size=cap/\cap<=maxLen/\es.length<=cap/\(∀j (hj:j<es.length),cs[j]?=some es[j])/\Below w.heap.size w w'):
  SatG P T f [] (vs.map AV.lit) [(100,some (1, .own t 1 (es.map AV.lit)))] (.slO 100 1 0 es.length):=by
 refine⟨hen,fun w e vals hr hz hg hlen hargs=>?_⟩
 obtain rfl:=lits_array hlen hargs
 refine(h w (UE e) hg).mono ?_
 rintro en w' ⟨B,cap,cs,rfl,hB,hw,hcs,hcap,hn,hval,hb⟩
 have hd:∀id,e id=none:=fun id=>hr.dead id rfl
 have hlt:B<w'.heap.size:=(Array.getElem?_eq_some_iff.1 hw).1
 obtain⟨e',he'⟩:∃e':Env,e'=⟨fun i=>if i=100 then some ⟨1,some (B,cap),1,es.length⟩ else none,e.z,fun _=>none⟩:=⟨_,rfl⟩
 have hm:∀i ee,e' i=some ee->i=100/\ee=⟨1,some (B,cap),1,es.length⟩:=by
  intro i ee h
  subst he'
  by_cases hi:i=100
  ·subst hi;simp at h;exact⟨rfl,h.symm⟩
  ·simp[hi] at h
 have h100:e' 100=some ⟨1,some (B,cap),1,es.length⟩:=by subst he';simp
 have hzz:e'.z=e.z:=by subst he';rfl
 have hkid:∀b,e'.kid b=none:=by subst he';intro b;rfl
 have hnzB:¬e.z B:=fun h2=>by have:=hz B h2;omega
 have hown:∀b,OwnB e' b->b=B:=by
  intro b hb
  rcases hb with ⟨id,ee,c,h1,h2⟩|⟨_,_,h,_⟩
  ·obtain⟨_,rfl⟩:=hm _ _ h1
   cases h2;rfl
  ·rw[hkid] at h;cases h
 have hel:(es.map AV.lit).length=es.length:=by simp
 refine⟨_,e',rfl,⟨?_,?_,?_,?_,?_,?_,?_,?_⟩,?_,⟨hb.size,?_,?_,?_,?_⟩,hzz,?_,⟨hb.os,hb.tape,hb.output,hb.size,fun b hlt _=>hb.block b hlt⟩⟩
 ·intro id h
  cases hx:e' id with
  |none=>rfl
  |some ee=>
   obtain⟨rfl,_⟩:=hm _ _ hx
   simp[Hp.get] at h
 ·intro id g ob h
  simp only[Hp.get] at h
  by_cases hi:100=id
  ·rw[if_pos hi] at h
   cases h
   subst hi
   refine⟨_,h100,rfl,by show 1<2;omega,rfl,by rw[hel],by omega,?_,?_,?_⟩
   ·intro i h;simp[AV.cells]
   ·intro i h j h';simp[AV.cells,AV.one]
   ·refine⟨hcap,by rw[hel];exact hn,cs, .of hw,by omega,?_⟩
    intro i h j h'
    have hj:j=0:=by simp[AV.cells] at h';omega
    subst hj
    have hi2:i<es.length:=by rwa[hel] at h
    have e1:(es.map AV.lit)[i].cells[0]= .lit es[i]:=by simp[AV.cells]
    have e2:cs.getD (i*1+0) undef=es[i]:=by
     rw[Array.getD_eq_getD_getElem?,show i*1+0=i by omega,hval i hi2];rfl
    rw[e1,e2]
    exact .val _ _ (.dat _ _ (.lit _ (he _ (List.getElem_mem hi2))))
  ·rw[if_neg hi] at h;cases h
 ·intro id id' ee ee' b c c' h1 h2 _ _
  rw[(hm _ _ h1).1,(hm _ _ h2).1]
 ·intro id ee b c h1 h2
  obtain⟨_,rfl⟩:=hm _ _ h1
  cases h2;exact hlt
 ·intro id ee b c h1 h2
  obtain⟨_,rfl⟩:=hm _ _ h1
  cases h2;rw[hzz];exact hnzB
 ·intro b B' c h;rw[hkid] at h;cases h
 ·intro b _;exact hkid b
 ·intro b B' c h;rw[hkid] at h;cases h
 ·refine .slO _ _ _ _ _ (by show 1<2;omega) rfl ?_
  intro ee h _
  obtain⟨_,rfl⟩:=hm _ _ h
  exact⟨by simp,fun _=>⟨cap,by simp,by simp,hn⟩⟩
 ·intro g hg;exact Nat.lt_of_lt_of_le hg (by omega)
 ·intro b hlt' hu
  refine⟨by rw[hzz];exact hu.1,fun h=>?_⟩
  have:=hown b h
  omega
 ·intro b hlt' hu
  exact hb.block b hlt'
 ·intro id ee h hg
  obtain⟨_,rfl⟩:=hm _ _ h
  exact absurd hg (by show ¬(1<1);omega)
 ·intro b h
  have:=hown b h
  subst this
  exact .inl hB
attribute [go_sem] str_list str_size str_app byts_length byts_bytes
end Go.Sym
