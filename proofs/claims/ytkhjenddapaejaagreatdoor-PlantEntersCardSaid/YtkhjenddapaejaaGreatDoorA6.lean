/- Lemmas towards plantEnters_card: no conditions of their own beyond those that each one states. -/
import Derived.Test.YtkhjenddapaejaaGreatDoorA5
import Derived.ProofKit
import Derived.Deep.Matrix
import Derived.Deep.Strs
import Derived.LaidMore
import Derived.OpenShut
import Derived.Stop.Joined
set_option linter.all false
set_option linter.unusedSimpArgs false
set_option linter.unusedVariables false
set_option linter.deprecated false
namespace Go.Proofs.YtkhjenddapaejaaGreatDoor
open Go Go.Sym
open Go.Plant
theorem eqL_getD {α:Type} {a b:List α} {d:α} (h:a.length=b.length) (h':∀j,j<a.length->a.getD j d=b.getD j d):a=b:=by
 refine List.ext_getElem h fun j h1 h2=>?_
 have:=h' j h1
 simpa[h1,h2] using this
theorem equal_sat (a b:List Int) (ha:a.length<=9223372036854775807) (hb:b.length<=9223372036854775807):SatG Tryz.prog tab 66 [] [IS a,IS b] [] (B (decide (a=b))):=by
 have hno:¬a=b->B (decide (a=b))=B false:=fun h=>by rw[decide_eq_false h]
 refine uFN Tryz.func66 Tryz.ntmps66 ?_;intro w e X hC
 refine uA ?_
 refine uA ?_
 refine uW ?_;refine condP _ rfl (fun c1=>?_) (fun c1=>?_)
 ·repeat refine uA ?_
  (refine awp_ret (ret1 uRT ?_);try rfl)
  exact(hno fun h=>c1 (by rw[h])).symm
 ·have c1:a.length=b.length:=by omega
  refine uA ?_
  refine uW ?_
  refine awp_loopW (fun i:Nat×Nat=>⟨[(0,IS a),(1,IS b),(12,I a.length),(13,I i.2)],[],i.1⟩) (fun i=>i.2<=a.length/\∀j,j<i.2->a.getD j 0=b.getD j 0) (fun i=>a.length - i.2) (_,0) ⟨Nat.zero_le _,fun j hj=>absurd hj (Nat.not_lt_zero _)⟩ (uKF) ?_
  rintro⟨ck,i⟩ ⟨hi,hj⟩
  simp only at hi hj
  refine uA ?_
  refine uW ?_;refine condP _ rfl (fun h=>?_) (fun h=>?_)
  ·have hlt:i<a.length:=by omega
   have hlt2:i<b.length:=by omega
   refine uA ?_
   refine uK1 (uI (ints_getD hlt) (ints_getD hlt2)) ?_
   refine uW ?_;refine condP _ rfl (fun c3=>?_) (fun c3=>?_)
   ·repeat refine uA ?_
    (refine awp_ret (ret1 uRT ?_);try rfl)
    exact(hno fun h=>c3 (by rw[h])).symm
   ·repeat refine uA ?_
    refine⟨(_,i+1),⟨by simp only;omega,fun j hj'=>?_⟩,by simp only;omega,uKF⟩
    by_cases hji:j=i
    ·subst hji;exact Decidable.byContradiction fun hc=>c3 hc
    ·exact hj j (by simp only at hj';omega)
  ·refine awp_exit ?_
   have hs:a=b:=eqL_getD c1 fun j h=>hj j (by omega)
   repeat refine uA ?_
   (refine awp_ret (ret1 uRT ?_);try rfl)
   rw[decide_eq_true hs];rfl
theorem same1_sat (a b:List Int) (ha:a.length<=9223372036854775807) (hb:b.length<=9223372036854775807):SatG Tryz.prog tab 65 [] [IS a,IS b] [] (B (decide (a=b))):=by
 refine uFN Tryz.func65 Tryz.ntmps65 ?_;intro w e X hC
 refine uA ?_
 refine uR ?_;intro K hK
 refine callF uTS ((equal_sat a b ha hb)) uTS uTS uTS ?_;refine uS ?_
 refine hK _ ?_;clear hK K
 (refine awp_ret (ret1 uRT ?_);try rfl)
theorem equalF_sat (a b:List (List Int)) (ha:a.length<=9223372036854775807) (hb:b.length<=9223372036854775807) (ha2:∀i,i<a.length->(a.getD i []).length<=9223372036854775807) (hb2:∀i,i<b.length->(b.getD i []).length<=9223372036854775807):
  SatG Tryz.prog tab 67 [] [RS a,RS b, .fn 65 []] [] (B (decide (a=b))):=by
 have hno:¬a=b->B (decide (a=b))=B false:=fun h=>by rw[decide_eq_false h]
 refine uFN Tryz.func67 Tryz.ntmps67 ?_;intro w e X hC
 refine uA ?_
 refine uA ?_
 refine uW ?_;refine condP _ rfl (fun c1=>?_) (fun c1=>?_)
 ·repeat refine uA ?_
  (refine awp_ret (ret1 uRT ?_);try rfl)
  exact(hno fun h=>c1 (by rw[h])).symm
 ·have c1:a.length=b.length:=by omega
  refine uA ?_
  refine uW ?_
  refine awp_loopW (fun i:Nat×Nat=>⟨[(1,RS b),(2, .fn 65 []),(15,RS a),(16,I a.length),(17,I i.2)],[],i.1⟩) (fun i=>i.2<=a.length/\∀j,j<i.2->a.getD j []=b.getD j []) (fun i=>a.length - i.2) (_,0) ⟨Nat.zero_le _,fun j hj=>absurd hj (Nat.not_lt_zero _)⟩ (uKF) ?_
  rintro⟨ck,i⟩ ⟨hi,hj⟩
  simp only at hi hj
  refine uA ?_
  refine uW ?_;refine condP _ rfl (fun h=>?_) (fun h=>?_)
  ·have hlt:i<a.length:=by omega
   have hlt2:i<b.length:=by omega
   have hsm:=same1_sat (a.getD i []) (b.getD i []) (ha2 i hlt) (hb2 i hlt2)
   by_cases c3:a.getD i []=b.getD i []
   ·rw[decide_eq_true c3] at hsm
    iterate 2 refine uA1 (uI (rows_getD hlt) (rows_getD hlt2)) ?_
    refine uR ?_;intro K hK
    refine callF uTS (hsm) uTS uTS uTS ?_;refine uS ?_
    refine hK _ ?_;clear hK K
    refine uF ?_
    repeat refine uA ?_
    refine⟨(_,i+1),⟨by simp only;omega,fun j hj'=>?_⟩,by simp only;omega,uKF⟩
    by_cases hji:j=i
    ·subst hji;exact c3
    ·exact hj j (by simp only at hj';omega)
   ·rw[decide_eq_false c3] at hsm
    iterate 2 refine uA1 (uI (rows_getD hlt) (rows_getD hlt2)) ?_
    refine uR ?_;intro K hK
    refine callF uTS (hsm) uTS uTS uTS ?_;refine uS ?_
    refine hK _ ?_;clear hK K
    refine uT ?_
    repeat refine uA ?_
    (refine awp_ret (ret1 uRT ?_);try rfl)
    exact(hno fun h=>c3 (by rw[h])).symm
  ·refine awp_exit ?_
   have hs:a=b:=eqL_getD c1 fun j h=>hj j (by omega)
   repeat refine uA ?_
   (refine awp_ret (ret1 uRT ?_);try rfl)
   rw[decide_eq_true hs];rfl
theorem psame_sat (p q:Pl) (h1:p.slots.length<=1000) (h2:p.bins.length<=1000) (h3:q.slots.length<=1000) (h4:q.bins.length<=1000)
  (h5:∀i,i<p.slots.length->(p.slots.getD i []).length<=1000) (h6:∀i,i<p.bins.length->(p.bins.getD i []).length<=1000) (h7:∀i,i<q.slots.length->(q.slots.getD i []).length<=1000) (h8:∀i,i<q.bins.length->(q.bins.getD i []).length<=1000):
  SatG Tryz.prog tab 34 [] [p.av,q.av] [] (B (decide (p.slots=q.slots/\p.bins=q.bins))):=by
 have g1:=equalF_sat p.slots q.slots (by omega) (by omega) (fun i hi=>by have:=h5 i hi;omega) (fun i hi=>by have:=h7 i hi;omega)
 have g2:=equalF_sat p.bins q.bins (by omega) (by omega) (fun i hi=>by have:=h6 i hi;omega) (fun i hi=>by have:=h8 i hi;omega)
 refine uFN Tryz.func34 Tryz.ntmps34 ?_;intro w e X hC
 refine uA ?_
 refine uA ?_
 by_cases c1:p.slots=q.slots
 ·rw[decide_eq_true c1] at g1
  refine uR ?_;intro K hK
  refine callF uTS (g1) uTS uTS uTS ?_;refine uS ?_
  refine callF uTS (g2) uTS uTS uTS ?_;refine uS ?_
  refine hK _ ?_;clear hK K
  (refine awp_ret (ret1 uRT ?_);try rfl)
  by_cases c2:p.bins=q.bins
  ·rw[decide_eq_true c2,decide_eq_true (show p.slots=q.slots/\p.bins=q.bins from⟨c1,c2⟩)];rfl
  ·rw[decide_eq_false c2,decide_eq_false (show ¬(p.slots=q.slots/\p.bins=q.bins) from fun h=>c2 h.2)];rfl
 ·rw[decide_eq_false c1] at g1
  refine uR ?_;intro K hK
  refine callF uTS (g1) uTS uTS uTS ?_;refine uS ?_
  refine hK _ ?_;clear hK K
  (refine awp_ret (ret1 uRT ?_);try rfl)
  rw[decide_eq_false (show ¬(p.slots=q.slots/\p.bins=q.bins) from fun h=>c1 h.1)];rfl
def bgA (p:Pl):Nat->List Int
 |0=>[]
 |i+1=>bgA p i++bags (p.slots.getD i [])
def bgB (p:Pl) (o:List Int):Nat->List Int
 |0=>o
 |i+1=>bgB p o i++p.bins.getD i []
theorem bgA_count (p:Pl) (b:Int):∀N,(bgA p N).count b=sumN (fun t=>(nz (p.slots.getD t [])).count b) N
 |0=>rfl
 |N+1=>by rw[bgA,List.count_append,bgA_count p b N,bags_eq,List.count_reverse];rfl
theorem bgB_count (p:Pl) (o:List Int) (b:Int):∀N,(bgB p o N).count b=o.count b+sumN (fun t=>(p.bins.getD t []).count b) N
 |0=>rfl
 |N+1=>by rw[bgB,List.count_append,bgB_count p o b N,sumN];omega
theorem bg_perm (p:Pl) (N:Nat):(bgB p (bgA p N) N).Perm (allB p N):=by
 rw[List.perm_iff_count]
 intro b
 rw[bgB_count,bgA_count,allB_count,<-sumN_add]
 refine sumN_congr fun t _=>?_
 rw[rowP,List.count_append]
theorem bgA_len (p:Pl) {i:Nat}:∀{N},i<=N->(bgA p i).length<=(bgA p N).length
 |0,h=>by have:=Nat.le_zero.1 h;subst this;exact Nat.le_refl _
 |N+1,h=>by
  by_cases hi:i=N+1
  ·subst hi;exact Nat.le_refl _
  ·have:=bgA_len p (i:=i) (N:=N) (by omega)
   rw[bgA,List.length_append];omega
theorem bgB_len (p:Pl) (o:List Int) {i:Nat}:∀{N},i<=N->(bgB p o i).length<=(bgB p o N).length
 |0,h=>by have:=Nat.le_zero.1 h;subst this;exact Nat.le_refl _
 |N+1,h=>by
  by_cases hi:i=N+1
  ·subst hi;exact Nat.le_refl _
  ·have:=bgB_len p o (i:=i) (N:=N) (by omega)
   rw[bgB,List.length_append];omega
theorem pbags_sat (p:Pl) (r:List Int) {N:Nat} (hs:p.slots.length=N) (hb:p.bins.length=N) (hN:N<=1000) (h5:∀i,i<N->(p.slots.getD i []).length<=1000) (h6:∀i,i<N->(p.bins.getD i []).length<=1000) (hr:r.Perm (allB p N)) (hrs:r.Pairwise (·<=·)) (hl:r.length<=12):
  SatG Tryz.prog tab 33 [] [p.av] [] (IS r):=by
 have hp:=hr.trans (bg_perm p N).symm
 have hlen:=hp.length_eq
 have hBA:(bgA p N).length<=(bgB p (bgA p N) N).length:=bgB_len p (bgA p N) (Nat.zero_le N)
 have hal:=fun(i:Nat) (hi:i<=N)=>bgA_len p hi
 have hbl:=fun(i:Nat) (hi:i<=N)=>bgB_len p (bgA p N) hi
 have hso:=sortI_sat (bgB p (bgA p N) N) r (by omega) hp hrs
 have hz:bgA p 0=[]:=rfl
 have hz2:ints ([]:List Int)=[]:=rfl
 refine uFN Tryz.func33 Tryz.ntmps33 ?_;intro w e X hC
 iterate 3 refine uA ?_
 refine awp_merge (fun q:Nat×Nat=>⟨[(1, .ptO 101 1 0 0 0),(3, .slO 103 q.2 0 (bgA p N).length)],(103,some (q.2, .own 3 1 (ints (bgA p N))))::(101,some (1, .box [RS p.slots,RS p.bins]))::[],q.1⟩) (fun _=>True) ?_ ?_
 ·refine uW ?_
  refine awp_loopW (fun i:Nat×Nat=>⟨[(1, .ptO 101 1 0 0 0),(3, .slO 103 3 0 (bgA p i.2).length),(9,RS p.slots),(10,I p.slots.length),(11,I i.2)],(103,some (3, .own 3 1 (ints (bgA p i.2))))::(101,some (1, .box [RS p.slots,RS p.bins]))::[],i.1⟩) (fun i=>i.2<=N) (fun i=>N - i.2) (_,0) (Nat.zero_le _) (.of (Nat.le_refl _) (uHF1 (uI @hz @hz2)) (uWF1 @hz)) ?_
  rintro⟨ck,i⟩ hi
  simp only at hi
  have hali:=hal i hi
  refine uA ?_
  refine uW ?_;refine condP _ rfl (fun h=>?_) (fun h=>?_)
  ·have hlt:i<N:=by omega
   have his:i<p.slots.length:=by omega
   have hrl:=h5 i hlt
   have e1:bgA p (i+1)=bgA p i++bags (p.slots.getD i []):=rfl
   have hal1:=hal (i+1) hlt
   rw[e1,List.length_append] at hal1
   generalize bgA p i=o at*
   generalize e3:p.slots.getD i []=sl at*
   refine uA1 (uI (rows_getD his) @e3) ?_
   refine uR ?_;intro K hK
   have z:=(uI @Bool.or_true (uI @Bool.true_or @Bool.false_or));refine callE [] [(117,ck+6,100,1)] false ((sbags_sat sl (by omega))) (uTR1 z) (uTR1 z) (uTE1 z) (uTE1 z) (uTE1 z) (uTE1 z) (uTE1 z) (uTE1 z) (uTE1 z) (uTE1 z) (uTE1 z) (uTE1 z) (uTE1 z) (uTE1 z) (uTE1 z) (uTE1 z) (uTE1 z) ?_;refine uQS1 z ?_;clear z
   refine uH ?_
   refine hK _ ?_;clear hK K
   repeat refine uA ?_
   refine⟨(_,i+1),by simp only;omega,by simp only;omega, .of (Nat.le_refl _) (uHF1 (uI @e1 @ints_append)) (uWF1 @e1)⟩
  ·refine awp_exit ?_
   have hie:i=N:=by omega
   rw[hie]
   repeat refine uA ?_
   refine⟨(_,3),trivial,uKF⟩
 ·rintro⟨ck1,g⟩ -
  have hz3:bgB p (bgA p N) 0=bgA p N:=rfl
  refine uA ?_
  refine awp_merge (fun q:Nat=>⟨[(3, .slO 103 g 0 (bgB p (bgA p N) N).length)],(103,some (g, .own 3 1 (ints (bgB p (bgA p N) N))))::[],q⟩) (fun _=>True) ?_ ?_
  ·refine uW ?_
   refine awp_loopW (fun i:Nat×Nat=>⟨[(3, .slO 103 g 0 (bgB p (bgA p N) i.2).length),(21,RS p.bins),(22,I p.bins.length),(23,I i.2)],(103,some (g, .own 3 1 (ints (bgB p (bgA p N) i.2))))::[],i.1⟩) (fun i=>i.2<=N) (fun i=>N - i.2) (_,0) (Nat.zero_le _) (.of (Nat.le_refl _) (uHF1 @hz3) (uWF1 @hz3)) ?_
   rintro⟨ck,i⟩ hi
   simp only at hi
   have hbli:=hbl i hi
   refine uA ?_
   refine uW ?_;refine condP _ rfl (fun h=>?_) (fun h=>?_)
   ·have hlt:i<N:=by omega
    have hib:i<p.bins.length:=by omega
    have hrl:=h6 i hlt
    have e1:bgB p (bgA p N) (i+1)=bgB p (bgA p N) i++p.bins.getD i []:=rfl
    have hbl1:=hbl (i+1) hlt
    rw[e1,List.length_append] at hbl1
    generalize bgB p (bgA p N) i=o at*
    generalize e3:p.bins.getD i []=sl at*
    refine uA1 (uI (rows_getD hib) @e3) ?_
    repeat refine uA ?_
    refine⟨(_,i+1),by simp only;omega,by simp only;omega, .of (Nat.le_refl _) (uHF1 (uI @e1 @ints_append)) (uWF1 @e1)⟩
   ·refine awp_exit ?_
    have hie:i=N:=by omega
    rw[hie]
    repeat refine uA ?_
    refine⟨_,trivial,uKF⟩
  ·rintro ck2 -
   generalize bgB p (bgA p N) N=o at*
   refine uR ?_;intro K hK
   refine callE [(0,0,103,g)] [(103,g,0,0)] true (hso) uTR uTR uTE uTE uTE uTE uTE uTE uTE uTE uTE uTE uTE uTE uTE uTE uTE ?_;refine uQS ?_
   refine hK _ ?_;clear hK K
   have hlen2:o.length=r.length:=hlen.symm
   rw[hlen2]
   repeat refine uA ?_
   refine awp_ret ?_;rw[show Tryz.f33.results.toList=[.tmp 2] from rfl];first|refine uRN ?_|exact uRM
def nlL (n:Nat):List AV:=List.replicate n (.sl [] true)
theorem nl_length (n:Nat):(nlL n).length=n:=by simp[nlL]
theorem nl_snoc (n:Nat):nlL n++[.sl [] true]=nlL (n+1):=by simp[nlL,List.replicate_succ']
theorem nl_all {f:AV->Prop} (n:Nat) (h:f (.sl [] true)):(∀e∈nlL n,∀c∈e.cells,f c)=True:=by
 refine eq_true fun e he c hc=>?_
 obtain rfl:=(List.mem_replicate.1 he).2
 rw[show(AV.sl [] true).cells=[.sl [] true] from rfl,List.mem_singleton] at hc
 rw[hc];exact h
theorem nl_cells (n:Nat):(∀y∈nlL n,y.cells.length=1)=True:=by
 refine eq_true fun e he=>?_
 obtain rfl:=(List.mem_replicate.1 he).2
 rfl
theorem nl_map {f:AV->AV} {v:AV} (n:Nat) (h:f (.sl [] true)=v):(nlL n).map (mapc f)=List.replicate n v:=by
 rw[nlL,List.map_replicate]
 congr 1
theorem nl_fm {f:AV->List Nat} (n:Nat) (h:f (.sl [] true)=[]):((nlL n).flatMap fun e=>e.cells.flatMap f)=[]:=by
 refine fm_nil fun e he=>?_
 obtain rfl:=(List.mem_replicate.1 he).2
 show(List.flatMap f [.sl [] true])=[]
 simp[h]
theorem rep_rows (n:Nat):List.replicate n (AV.sl [] false)=rows (List.replicate n []):=by simp[rows,ints]
theorem nl_fz (k n:Nat) (hp:Hp):(nlL n).map (mapc (fz k hp))=rows (List.replicate n []):=by rw[nl_map n (fz_sl k hp [] true),rep_rows]
theorem nl_fzP (k n:Nat) (hp:Hp):(∀e∈nlL n,∀c∈e.cells,fzP k hp c)=True:=nl_all n (by cases k<;>trivial)
theorem nl_fzR (k n:Nat) (hp:Hp):((nlL n).flatMap fun e=>e.cells.flatMap (fzR k hp))=[]:=nl_fm n (by cases k<;>rfl)
attribute [go_sem] nl_length nl_snoc nl_cells nl_fz nl_fzP nl_fzR
def emptyP (xs:List Nd) (k:Nat):Pl:=⟨(List.range k).map fun i=>List.replicate (xs.getD i default).ln.toNat 0,List.replicate k []⟩
theorem emptyP_succ (xs:List Nd) (k:Nat):(emptyP xs (k+1)).slots=(emptyP xs k).slots++[List.replicate (xs.getD k default).ln.toNat 0]:=by simp[emptyP,List.range_succ]
theorem emptyP_len (xs:List Nd) (k:Nat):(emptyP xs k).slots.length=k/\(emptyP xs k).bins.length=k:=by simp[emptyP]
def newP (y:Ly):Pl:=if validE y=0 then emptyP y.nodes y.nodes.length else⟨[],[]⟩
theorem pnew_sat (y:Ly) (hs:Sml7 y) (hn0:validE y=0->0<y.nodes.length):SatG Tryz.prog tab 31 [] [y.av] [] (.tup [(newP y).av,I (validE y)]):=by
 have h1:=validate_sat y hs
 have hE:newP y=_:=newP.eq_1 y
 have hln:=fun h:validE y=0=>fun i hi=>(⟨(nodeE_len (validE_nodes h i hi)).1,(nodeE_len (validE_nodes h i hi)).2.1⟩:0<=(y.nodes.getD i default).ln/\(y.nodes.getD i default).ln<=8)
 have hN:=hs.n
 generalize newP y=r at*
 generalize validE y=v at*
 refine uFN Tryz.func31 Tryz.ntmps31 ?_;intro w e X hC
 refine uA ?_
 refine uR ?_;intro K hK
 refine callF uTS (h1) uTS uTS uTS ?_;refine uS ?_
 refine hK _ ?_;clear hK K
 repeat refine uA ?_
 refine uW ?_;refine condP _ rfl (fun c=>?_) (fun c=>?_)
 ·rw[if_neg c] at hE
  subst hE
  repeat refine uA ?_
  refine awp_ret ?_;rw[show Tryz.f31.results.toList=[.cell 2 34, .tmp 3] from rfl];first|refine uRN ?_|exact uRM
  rfl
 ·have c':=Decidable.byContradiction c
  rw[if_pos c'] at hE
  replace hln:=hln c'
  replace hn0:=hn0 c'
  subst hE
  repeat refine uA ?_
  refine uW ?_
  refine awp_loopW (fun q:Nat×Nat×Nat×Nat=>⟨[(1, .ptO 101 1 0 0 0),(2, .ptO 102 2 0 0 0),(5, .ptO 105 9 0 0 0),(15, .sl (nds y.nodes) false),(16,I y.nodes.length),(17,I q.2.1)],
   (105,some (9, .box [nilC q.2.1 (.slO 127 q.2.2.1 0 q.2.1),nilC q.2.1 (.slO 132 q.2.2.2 0 q.2.1)]))::(127,nilH q.2.1 (q.2.2.1, .own 22 1 (krows 3 (emptyP y.nodes q.2.1).slots)))::(132,nilH q.2.1 (q.2.2.2, .own 22 1 (nlL q.2.1)))::(102,some (2, .box [.sl [] true, .sl [] true]))::(101,some (1, .box [.sl (nds y.nodes) false, .sl (t3s y.devs) false]))::[],q.1⟩)
   (fun q=>q.2.1<=y.nodes.length) (fun q=>y.nodes.length - q.2.1) (_,0,0,0) (Nat.zero_le _) (uKF) ?_
  rintro⟨ck,i,g1,g2⟩ hi
  simp only at hi
  obtain⟨hol,-⟩:=emptyP_len y.nodes i
  have e1:=emptyP_succ y.nodes i
  repeat refine uA ?_
  refine uW ?_;refine condP _ rfl (fun h=>?_) (fun h=>?_)
  ·have hlt:i<y.nodes.length:=by omega
   have hli:=hln i hlt
   generalize (emptyP y.nodes i).slots=o at*
   generalize e2:y.nodes.getD i default=x at*
   obtain⟨m,hm⟩:∃m:Nat,m=x.ln.toNat:=⟨_,rfl⟩
   have hmm:x.ln=(m:Int):=by omega
   rw[<-hm] at e1
   by_cases hi0:i=0
   ·subst hi0
    simp only[nilC_z,nilH_z]
    obtain rfl:o=[]:=List.length_eq_zero_iff.1 hol
    repeat refine uA1 (uI (nds_getD hlt) (uI @e2 @hmm)) ?_
    refine uD1 @krows_one ?_;intro K hK
    refine uH ?_
    refine hK _ ?_;clear hK K
    repeat refine uA ?_
    refine⟨(_,0+1,ck+11,ck+17),by simp only;omega,by simp only;omega, .of (Nat.le_refl _) (uHF1 (uI @e1 (uI @nilC_s @nilH_s))) uWF⟩
   ·simp only[nilC_p hi0,nilH_p hi0]
    repeat refine uA1 (uI (nds_getD hlt) (uI @e2 (uI @hmm @hol))) ?_
    refine uD1 @hol ?_;intro K hK
    refine uH ?_
    refine hK _ ?_;clear hK K
    repeat refine uA ?_
    refine⟨(_,i+1,g1,g2),by simp only;omega,by simp only;omega, .of (Nat.le_refl _) (uHF1 (uI @e1 (uI @nilC_s @nilH_s))) uWF⟩
  ·refine awp_exit ?_
   obtain rfl:i=y.nodes.length:=by omega
   have hnz:y.nodes.length≠0:=by omega
   simp only[nilC_p hnz,nilH_p hnz]
   repeat refine uA ?_
   refine awp_ret ?_;rw[show Tryz.f31.results.toList=[.cell 2 34, .tmp 3] from rfl];first|refine uRN1 @hol ?_|exact uRM1 @hol
   rw[c']
   rfl
theorem rnew_sat (y:Ly) (hs:Sml7 y) (hn0:validE y=0->0<y.nodes.length):SatG Tryz.prog tab 32 [] [y.av] [] (.tup [(newP y).av,I (validE y)]):=by
 have h1:=rvalidate_sat y hs
 have hE:newP y=_:=newP.eq_1 y
 have hln:=fun h:validE y=0=>fun i hi=>(⟨(nodeE_len (validE_nodes h i hi)).1,(nodeE_len (validE_nodes h i hi)).2.1⟩:0<=(y.nodes.getD i default).ln/\(y.nodes.getD i default).ln<=8)
 have hN:=hs.n
 generalize newP y=r at*
 generalize validE y=v at*
 refine uFN Tryz.func32 Tryz.ntmps32 ?_;intro w e X hC
 refine uA ?_
 refine uR ?_;intro K hK
 refine callF uTS (h1) uTS uTS uTS ?_;refine uS ?_
 refine hK _ ?_;clear hK K
 repeat refine uA ?_
 refine uW ?_;refine condP _ rfl (fun c=>?_) (fun c=>?_)
 ·rw[if_neg c] at hE
  subst hE
  repeat refine uA ?_
  refine awp_ret ?_;rw[show Tryz.f32.results.toList=[.cell 2 34, .tmp 3] from rfl];first|refine uRN ?_|exact uRM
  rfl
 ·have c':=Decidable.byContradiction c
  rw[if_pos c'] at hE
  replace hln:=hln c'
  replace hn0:=hn0 c'
  subst hE
  repeat refine uA ?_
  refine uW ?_
  refine awp_loopW (fun q:Nat×Nat×Nat×Nat=>⟨[(1, .ptO 101 1 0 0 0),(2, .ptO 102 2 0 0 0),(5, .ptO 105 9 0 0 0),(6,I q.2.1)],(105,some (9, .box [nilC q.2.1 (.slO 130 q.2.2.1 0 q.2.1),nilC q.2.1 (.slO 134 q.2.2.2 0 q.2.1)]))::(130,nilH q.2.1 (q.2.2.1, .own 22 1 (krows 3 (emptyP y.nodes q.2.1).slots)))::(134,nilH q.2.1 (q.2.2.2, .own 22 1 (nlL q.2.1)))::(102,some (2, .box [.sl [] true, .sl [] true]))::(101,some (1, .box [.sl (nds y.nodes) false, .sl (t3s y.devs) false]))::[],q.1⟩)
   (fun q=>q.2.1<=y.nodes.length) (fun q=>y.nodes.length - q.2.1) (_,0,0,0) (Nat.zero_le _) (uKF) ?_
  rintro⟨ck,i,g1,g2⟩ hi
  simp only at hi
  obtain⟨hol,-⟩:=emptyP_len y.nodes i
  have e1:=emptyP_succ y.nodes i
  repeat refine uA ?_
  refine uW ?_;refine condP _ rfl (fun h=>?_) (fun h=>?_)
  ·have hlt:i<y.nodes.length:=by omega
   have hli:=hln i hlt
   generalize (emptyP y.nodes i).slots=o at*
   generalize e2:y.nodes.getD i default=x at*
   obtain⟨m,hm⟩:∃m:Nat,m=x.ln.toNat:=⟨_,rfl⟩
   have hmm:x.ln=(m:Int):=by omega
   rw[<-hm] at e1
   by_cases hi0:i=0
   ·subst hi0
    simp only[nilC_z,nilH_z]
    obtain rfl:o=[]:=List.length_eq_zero_iff.1 hol
    refine uD1 (uI (nds_getD hlt) (uI @e2 (uI @hmm @krows_one))) ?_;intro K hK
    refine uH ?_
    refine hK _ ?_;clear hK K
    repeat refine uA ?_
    refine⟨(_,0+1,ck+15,ck+19),by simp only;omega,by simp only;omega, .of (Nat.le_refl _) (uHF1 (uI @e1 (uI @nilC_s @nilH_s))) uWF⟩
   ·simp only[nilC_p hi0,nilH_p hi0]
    refine uD1 (uI (nds_getD hlt) (uI @e2 (uI @hmm @hol))) ?_;intro K hK
    refine uH ?_
    refine hK _ ?_;clear hK K
    repeat refine uA ?_
    refine⟨(_,i+1,g1,g2),by simp only;omega,by simp only;omega, .of (Nat.le_refl _) (uHF1 (uI @e1 (uI @nilC_s @nilH_s))) uWF⟩
  ·refine awp_exit ?_
   obtain rfl:i=y.nodes.length:=by omega
   have hnz:y.nodes.length≠0:=by omega
   simp only[nilC_p hnz,nilH_p hnz]
   repeat refine uA ?_
   refine awp_ret ?_;rw[show Tryz.f32.results.toList=[.cell 2 34, .tmp 3] from rfl];first|refine uRN1 @hol ?_|exact uRM1 @hol
   rw[c']
   rfl
open Go.Plant
def whereQ (p:Pl) (b:Int):Int×Int×Bool:=if b=0 then(0,0,false) else whereP p b
theorem idxR_sym {l:List Int} {b:Int}:idxR (fun y=>decide (b=y)) l=idxR (fun y=>decide (y=b)) l:=by
 have:(fun y:Int=>decide (b=y))=fun y=>decide (y=b):=by
  funext y
  by_cases h:b=y
  ·subst h;rfl
  ·rw[decide_eq_false h,decide_eq_false (fun h2=>h h2.symm)]
 rw[this]
theorem idxR_mem {l:List Int} {b:Int}:(b∈l/\∃k:Nat,k<l.length/\idxR (fun y=>decide (y=b)) l=k/\(l.findIdx? fun x=>decide (x=b))=some k)\/(b∉l/\idxR (fun y=>decide (y=b)) l=-1):=by
 by_cases h:b∈l
 ·refine .inl ⟨h,?_⟩
  cases hf:(l.findIdx? fun x=>decide (x=b)) with
  |none=>
   rw[List.findIdx?_eq_none_iff] at hf
   have:=hf b h
   simp at this
  |some k=>
   have h2:=hf
   rw[List.findIdx?_eq_some_iff_getElem] at h2
   obtain⟨h3,_⟩:=h2
   exact⟨k,h3,by rw[idxR,hf],rfl⟩
 ·refine .inr ⟨h,?_⟩
  have:(l.findIdx? fun x=>decide (x=b))=none:=by
   rw[List.findIdx?_eq_none_iff]
   intro x hx
   simp only[decide_eq_false_iff_not]
   rintro rfl
   exact h hx
  rw[idxR,this]
theorem pwhere_sat (p:Pl) (b:Int) (h1:p.slots.length<=1000) (h2:p.bins.length<=1000) (h3:∀i,i<p.slots.length->(p.slots.getD i []).length<=1000) (h4:∀i,i<p.bins.length->(p.bins.getD i []).length<=1000):
  SatG Tryz.prog tab 39 [] [p.av,I b] [] (whereAV (whereQ p b)):=by
 refine uFN Tryz.func39 Tryz.ntmps39 ?_;intro w e X hC
 repeat refine uA ?_
 refine uW ?_;refine condP _ rfl (fun c0=>?_) (fun c0=>?_)
 ·have hE:whereQ p b=(0,0,false):=if_pos c0
  rw[hE]
  repeat refine uA ?_
  refine awp_ret ?_;rw[show Tryz.f39.results.toList=[.cell 4 52, .tmp 5] from rfl];first|refine uRN ?_|exact uRM
 ·have hE:whereQ p b=whereP p b:=if_neg c0
  rw[hE]
  repeat refine uA ?_
  refine uW ?_
  refine awp_loopW (fun q:Nat×Nat=>⟨[(1,I b),(2, .ptO 102 1 0 0 0),(4, .ptO 104 2 0 0 0),(15,RS p.slots),(16,I p.slots.length),(17,I q.2)],(102,some (1, .box [RS p.slots,RS p.bins]))::(104,some (2, .box [I 0,I 0]))::[],q.1⟩) (fun q=>q.2<=p.slots.length/\∀j,j<q.2->b∉p.slots.getD j []) (fun q=>p.slots.length - q.2) (_,0) ⟨Nat.zero_le _,fun j hj=>absurd hj (Nat.not_lt_zero _)⟩ (uKF) ?_
  rintro⟨ck,i⟩ ⟨hi,hj⟩
  simp only at hi hj
  repeat refine uA ?_
  refine uW ?_;refine condP _ rfl (fun h=>?_) (fun h=>?_)
  ·have hlt:i<p.slots.length:=by omega
   have hri:=h3 i hlt
   have hfr:=fun h=>fR_some hlt h hj
   have hgd:b∉p.slots.getD i []->∀j,j<i+1->b∉p.slots.getD j []:=fun h j hj'=>by
    by_cases hji:j=i
    ·subst hji;exact h
    ·exact hj j (by omega)
   have hix:=idxR_mem (l:=p.slots.getD i []) (b:=b)
   have hgi:(p.slots.findIdx? fun r=>decide (b∈r))=some i->whereP p b=((i:Int),((((p.slots.getD i []).findIdx? fun x=>decide (x=b)).getD 0:Nat):Int),true):=fun h=>by rw[whereP,if_neg c0,h]
   generalize e1:p.slots.getD i []=sl at*
   have hsat:=indexI_sat sl b (by omega)
   rw[idxR_sym] at hsat
   generalize idxR (fun y=>decide (y=b)) sl=ix at*
   refine uA1 (uI (rows_getD hlt) @e1) ?_
   refine uR ?_;intro K hK
   refine callF uTS (hsat) uTS uTS uTS ?_;refine uS ?_
   refine hK _ ?_;clear hK K
   repeat refine uA ?_
   rcases hix with ⟨hm,k,hk,rfl,hf⟩|⟨hm,rfl⟩
   ·have hw:=hgi (hfr hm)
    rw[hf] at hw
    rw[hw]
    refine uW ?_;refine condP _ rfl (fun h5=>?_) (fun h5=>?_)
    ·repeat refine uA ?_
     refine awp_ret ?_;rw[show Tryz.f39.results.toList=[.cell 4 52, .tmp 5] from rfl];first|refine uRN ?_|exact uRM
    ·omega
   ·refine uW ?_;refine condP _ rfl (fun h5=>?_) (fun h5=>?_)
    ·omega
    ·repeat refine uA ?_
     refine⟨(_,i+1),⟨by simp only;omega,hgd hm⟩,by simp only;omega,uKF⟩
  ·refine awp_exit ?_
   obtain rfl:i=p.slots.length:=by omega
   have hno:=fR_none hj
   have hgi:whereP p b=(match p.bins.findIdx? fun r=>decide (b∈r) with|some n=>((n:Int),-1,true)|none=>(0,0,false)):=by rw[whereP,if_neg c0,hno];rfl
   rw[hgi]
   repeat refine uA ?_
   refine uW ?_
   refine awp_loopW (fun q:Nat×Nat=>⟨[(1,I b),(2, .ptO 102 1 0 0 0),(4, .ptO 104 2 0 0 0),(32,RS p.bins),(33,I p.bins.length),(34,I q.2)],(102,some (1, .box [RS p.slots,RS p.bins]))::(104,some (2, .box [I 0,I 0]))::[],q.1⟩) (fun q=>q.2<=p.bins.length/\∀j,j<q.2->b∉p.bins.getD j []) (fun q=>p.bins.length - q.2) (_,0) ⟨Nat.zero_le _,fun j hj=>absurd hj (Nat.not_lt_zero _)⟩ (uKF) ?_
   rintro⟨ck2,i⟩ ⟨hi,hj2⟩
   simp only at hi hj2
   repeat refine uA ?_
   refine uW ?_;refine condP _ rfl (fun h5=>?_) (fun h5=>?_)
   ·have hlt:i<p.bins.length:=by omega
    have hri:=h4 i hlt
    have hfr:=fun h=>fR_some hlt h hj2
    have hgd:b∉p.bins.getD i []->∀j,j<i+1->b∉p.bins.getD j []:=fun h j hj'=>by
     by_cases hji:j=i
     ·subst hji;exact h
     ·exact hj2 j (by omega)
    generalize e1:p.bins.getD i []=sl at*
    have hsat:=containsI_sat sl b (by omega)
    have hany:sl.any (fun y=>decide (b=y))=decide (b∈sl):=by
     rw[Bool.eq_iff_iff,List.any_eq_true,decide_eq_true_eq]
     constructor
     ·rintro⟨z,hz,h⟩
      rw[decide_eq_true_eq] at h
      rw[h];exact hz
     ·intro h;exact⟨b,h,by simp⟩
    rw[hany] at hsat
    refine uA1 (uI (rows_getD hlt) @e1) ?_
    refine uR ?_;intro K hK
    refine callF uTS (hsat) uTS uTS uTS ?_;refine uS ?_
    refine hK _ ?_;clear hK K
    refine uW ?_;refine condP _ rfl (fun h6=>?_) (fun h6=>?_)
    ·have:=hfr h6
     rw[this]
     repeat refine uA ?_
     refine awp_ret ?_;rw[show Tryz.f39.results.toList=[.cell 4 52, .tmp 5] from rfl];first|refine uRN ?_|exact uRM
    ·repeat refine uA ?_
     refine⟨(_,i+1),⟨by simp only;omega,hgd h6⟩,by simp only;omega,uKF⟩
   ·refine awp_exit ?_
    obtain rfl:i=p.bins.length:=by omega
    rw[fR_none hj2]
    repeat refine uA ?_
    refine awp_ret ?_;rw[show Tryz.f39.results.toList=[.cell 4 52, .tmp 5] from rfl];first|refine uRN ?_|exact uRM
def pushOk (s:List Int) (b:Int):Bool:=!(decide (s.length=0)||(decide (¬s.getD 0 0=0)||decide (b=0)))
theorem push_ok (s:List Int) (b:Int) (hs:s.length<=1000) (h:pushOk s b=true):SatG Tryz.prog tab 68 [] [IS s,I b] [(100,some (1, .own 3 1 (ints (s.set 0 b))))] (.tup [.slO 100 1 0 s.length,B true]):=by
 simp only[pushOk,Bool.not_eq_true',Bool.or_eq_false_iff,decide_eq_false_iff_not] at h
 obtain⟨h0,h1,h2⟩:=h
 have d0:decide ((s.length:Int)=0)=false:=decide_eq_false (by omega)
 have d1:decide (¬s.getD 0 0=0)=false:=decide_eq_false h1
 have d2:decide (b=0)=false:=decide_eq_false h2
 have hl0:0<s.length:=by omega
 refine uFN Tryz.func68 Tryz.ntmps68 ?_;intro w e X hC
 repeat refine uA ?_
 refine uR1 (uI @d0 (uI (ints_getD hl0) (uI @Int.toNat_zero (uI @d1 @d2)))) ?_;intro K hK
 refine uH ?_
 refine hK _ ?_;clear hK K
 refine uF ?_
 refine uR ?_;intro K hK
 refine callE [] [(121,17,100,1)] false ((clone_sat s hl0 hs)) uTR uTR uTE uTE uTE uTE uTE uTE uTE uTE uTE uTE uTE uTE uTE uTE uTE ?_;refine uQS ?_
 refine hK _ ?_;clear hK K
 repeat refine uA ?_
 refine awp_ret ?_;rw[show Tryz.f68.results.toList=[.tmp 4, .tmp 5] from rfl];(refine retG [(100,1,121,17)] uRG (by simp) (by simp) (by simp) uTG uTG uTG ?_ ?_;all_goals (first|refine uSG ?_|exact uXG|skip))
theorem push_bad (s:List Int) (b:Int) (hs:s.length<=1000) (h:pushOk s b=false):SatG Tryz.prog tab 68 [] [IS s,I b] [] (.tup [.sl [] false,B false]):=by
 simp only[pushOk,Bool.not_eq_false',Bool.or_eq_true,decide_eq_true_eq] at h
 refine uFN Tryz.func68 Tryz.ntmps68 ?_;intro w e X hC
 repeat refine uA ?_
 by_cases h0:s.length=0
 ·have d0:decide ((s.length:Int)=0)=true:=decide_eq_true (by omega)
  refine uR1 @d0 ?_;intro K hK
  refine hK _ ?_;clear hK K
  refine uT ?_
  repeat refine uA ?_
  refine awp_ret ?_;rw[show Tryz.f68.results.toList=[.tmp 4, .tmp 5] from rfl];first|refine uRN ?_|exact uRM
 have d0:decide ((s.length:Int)=0)=false:=decide_eq_false (by omega)
 have hl0:0<s.length:=by omega
 by_cases h1:s.getD 0 0=0
 ·have d1:decide (¬s.getD 0 0=0)=false:=decide_eq_false (fun h=>h h1)
  have d2:decide (b=0)=true:=decide_eq_true ((h.resolve_left h0).resolve_left (fun h=>h h1))
  refine uR1 (uI @d0 (uI (ints_getD hl0) (uI @Int.toNat_zero (uI @d1 @d2)))) ?_;intro K hK
  refine uH ?_
  refine hK _ ?_;clear hK K
  refine uT ?_
  repeat refine uA ?_
  refine awp_ret ?_;rw[show Tryz.f68.results.toList=[.tmp 4, .tmp 5] from rfl];first|refine uRN ?_|exact uRM
 ·have d1:decide (¬s.getD 0 0=0)=true:=decide_eq_true h1
  refine uR1 (uI @d0 (uI (ints_getD hl0) (uI @Int.toNat_zero @d1))) ?_;intro K hK
  refine uH ?_
  refine hK _ ?_;clear hK K
  refine uT ?_
  repeat refine uA ?_
  refine awp_ret ?_;rw[show Tryz.f68.results.toList=[.tmp 4, .tmp 5] from rfl];first|refine uRN ?_|exact uRM
def enterR (y:Ly) (p:Pl) (node bag:Int):Pl×Int:=
 if node<0\/y.nodes.length<=node\/bag<1\/40<bag then(⟨[],[]⟩,1)
 else if ¬(y.nodes.getD node.toNat default).kd=1 then(⟨[],[]⟩,4)
 else if(whereP p bag).2.2=true then(⟨[],[]⟩,5)
 else if ¬(p.slots.getD node.toNat []).getD 0 0=0 then(⟨[],[]⟩,8)
 else(⟨p.slots.set node.toNat ((p.slots.getD node.toNat []).set 0 bag),p.bins⟩,0)
theorem penter_sat (y:Ly) (p:Pl) (node bag:Int) (hp:FitP y.nodes p):SatG Tryz.prog tab 37 [] [y.av,p.av,I node,I bag] [] (.tup [(enterR y p node bag).1.av,I (enterR y p node bag).2]):=by
 have hxl:=hp.xl
 have hsl:=hp.sl
 have hbl:=hp.bl
 have hr1:∀i,i<p.slots.length->(p.slots.getD i []).length<=1000:=fun i hi=>by
  rw[hp.sl] at hi
  have:=hp.row i hi;have:=hp.ln i hi;omega
 have hr2:∀i,i<p.bins.length->(p.bins.getD i []).length<=1000:=fun i hi=>by
  rw[hp.bl] at hi
  have:=hp.bin i hi;omega
 have hwh:=pwhere_sat p bag (by omega) (by omega) hr1 hr2
 have hcl:=clone69_sat p (by omega) (by omega) hr1 hr2
 have hE:enterR y p node bag=_:=enterR.eq_1 y p node bag
 generalize enterR y p node bag=r at*
 refine uFN Tryz.func37 Tryz.ntmps37 ?_;intro w e X hC
 repeat refine uA ?_
 cases d1:decide (node<0) with
 |true=>
  rw[if_pos (.inl (of_decide_eq_true d1))] at hE
  subst hE
  refine uR1 @d1 ?_;intro K hK
  refine hK _ ?_;clear hK K
  refine uT ?_
  repeat refine uA ?_
  refine awp_ret ?_;rw[show Tryz.f37.results.toList=[.cell 8 34, .tmp 9] from rfl];first|refine uRN ?_|exact uRM
  rfl
 |false=>
 have g1:=of_decide_eq_false d1
 cases d2:decide ((y.nodes.length:Int)<=node) with
 |true=>
  rw[if_pos (.inr (.inl (of_decide_eq_true d2)))] at hE
  subst hE
  refine uR1 (uI @d1 @d2) ?_;intro K hK
  refine hK _ ?_;clear hK K
  refine uT ?_
  repeat refine uA ?_
  refine awp_ret ?_;rw[show Tryz.f37.results.toList=[.cell 8 34, .tmp 9] from rfl];first|refine uRN ?_|exact uRM
  rfl
 |false=>
 have g2:=of_decide_eq_false d2
 cases d3:decide (bag<1) with
 |true=>
  rw[if_pos (.inr (.inr (.inl (of_decide_eq_true d3))))] at hE
  subst hE
  refine uR1 (uI @d1 (uI @d2 @d3)) ?_;intro K hK
  refine hK _ ?_;clear hK K
  refine uT ?_
  repeat refine uA ?_
  refine awp_ret ?_;rw[show Tryz.f37.results.toList=[.cell 8 34, .tmp 9] from rfl];first|refine uRN ?_|exact uRM
  rfl
 |false=>
 have g3:=of_decide_eq_false d3
 cases d4:decide (40<bag) with
 |true=>
  rw[if_pos (.inr (.inr (.inr (of_decide_eq_true d4))))] at hE
  subst hE
  refine uR1 (uI @d1 (uI @d2 (uI @d3 @d4))) ?_;intro K hK
  refine hK _ ?_;clear hK K
  refine uT ?_
  repeat refine uA ?_
  refine awp_ret ?_;rw[show Tryz.f37.results.toList=[.cell 8 34, .tmp 9] from rfl];first|refine uRN ?_|exact uRM
  rfl
 |false=>
 have g4:=of_decide_eq_false d4
 rw[if_neg (fun h=>by rcases h with h|h|h|h<;>omega)] at hE
 obtain⟨m,hm⟩:∃m,m=node.toNat:=⟨_,rfl⟩
 have hmm:node=(m:Int):=by omega
 rw[<-hm] at hE
 subst hmm
 have hmn:m<y.nodes.length:=by omega
 have hms:m<p.slots.length:=by omega
 have hst:=hp.st m hmn
 have hrow:=hp.row m hmn
 have hrl:=hr1 m hms
 have hw:whereQ p bag=whereP p bag:=if_neg (by omega)
 rw[hw] at hwh
 generalize whereP p bag=wq at*
 obtain⟨q1,q2,q3⟩:=wq
 simp only at hE hwh
 generalize e2:y.nodes.getD m default=x at*
 generalize e3:p.slots.getD m []=sl at*
 refine uR1 (uI @d1 (uI @d2 (uI @d3 @d4))) ?_;intro K hK
 refine hK _ ?_;clear hK K
 refine uF ?_
 repeat refine uA1 (uI (nds_getD hmn) @e2) ?_
 refine uW ?_;refine condP _ rfl (fun c1=>?_) (fun c1=>?_)
 ·rw[if_pos c1] at hE
  subst hE
  repeat refine uA ?_
  refine awp_ret ?_;rw[show Tryz.f37.results.toList=[.cell 8 34, .tmp 9] from rfl];first|refine uRN ?_|exact uRM
  rfl
 rw[if_neg c1] at hE
 have c1':x.kd=1:=Decidable.byContradiction c1
 have hl0:0<sl.length:=by have:=hst (by rw[c1'];decide);omega
 refine uR ?_;intro K hK
 refine callP uTS (hwh) uTS uTS uTS ?_;refine uS ?_
 refine hK _ ?_;clear hK K
 repeat refine uA ?_
 cases q3 with
 |true=>
  rw[if_pos rfl] at hE
  subst hE
  refine uT ?_
  repeat refine uA ?_
  refine awp_ret ?_;rw[show Tryz.f37.results.toList=[.cell 8 34, .tmp 9] from rfl];first|refine uRN ?_|exact uRM
  rfl
 |false=>
 rw[if_neg (by decide)] at hE
 refine uF ?_
 repeat refine uA ?_
 refine uW ?_;refine condP _ rfl (fun c2=>?_) (fun c2=>?_)
 ·omega
 by_cases c3:sl.getD 0 0=0
 ·rw[if_neg (fun h=>h c3)] at hE
  subst hE
  have hpu:=push_ok sl bag hrl (by
   simp only[pushOk,Bool.not_eq_true',Bool.or_eq_false_iff,decide_eq_false_iff_not]
   exact⟨by omega,fun h=>h c3,by omega⟩)
  refine uR1 (uI (rows_getD hms) @e3) ?_;intro K hK
  refine uH ?_
  refine callE [] [(162,50,100,1)] false (hpu) uTR uTR uTE uTE uTE uTE uTE uTE uTE uTE uTE uTE uTE uTE uTE uTE uTE ?_;refine uQS ?_
  refine hK _ ?_;clear hK K
  repeat refine uA ?_
  refine uF ?_
  refine uR ?_;intro K hK
  have z:=@Bool.or_true;refine callE [] [(169,59,100,1),(401,59,101,1)] false (hcl) (uTR1 z) (uTR1 z) (uTE1 z) (uTE1 z) (uTE1 z) (uTE1 z) (uTE1 z) (uTE1 z) (uTE1 z) (uTE1 z) (uTE1 z) (uTE1 z) (uTE1 z) (uTE1 z) (uTE1 z) (uTE1 z) (uTE1 z) ?_;refine uQS1 z ?_;clear z
  refine hK _ ?_;clear hK K
  repeat refine uA ?_
  refine awp_ret ?_;rw[show Tryz.f37.results.toList=[.cell 8 34, .tmp 9] from rfl];first|refine uRN ?_|exact uRM
 ·rw[if_pos c3] at hE
  subst hE
  have hpu:=push_bad sl bag hrl (by
   simp only[pushOk,Bool.not_eq_false',Bool.or_eq_true,decide_eq_true_eq]
   exact .inr (.inl c3))
  refine uR1 (uI (rows_getD hms) @e3) ?_;intro K hK
  refine uH ?_
  refine callP uTS (hpu) uTS uTS uTS ?_;refine uS ?_
  refine hK _ ?_;clear hK K
  repeat refine uA ?_
  refine uT ?_
  repeat refine uA ?_
  refine awp_ret ?_;rw[show Tryz.f37.results.toList=[.cell 8 34, .tmp 9] from rfl];first|refine uRN ?_|exact uRM
  rfl
open Go.Plant
theorem renter_sat (y:Ly) (p:Pl) (node bag:Int) (hp:FitP y.nodes p):SatG Tryz.prog tab 38 [] [y.av,p.av,I node,I bag] [] (.tup [(enterR y p node bag).1.av,I (enterR y p node bag).2]):=by
 have hxl:=hp.xl
 have hsl:=hp.sl
 have hbl:=hp.bl
 have hr1:∀i,i<p.slots.length->(p.slots.getD i []).length<=1000:=fun i hi=>by
  rw[hp.sl] at hi
  have:=hp.row i hi;have:=hp.ln i hi;omega
 have hr2:∀i,i<p.bins.length->(p.bins.getD i []).length<=1000:=fun i hi=>by
  rw[hp.bl] at hi
  have:=hp.bin i hi;omega
 have hwh:=where_sat p bag (by omega) (by omega) hr1 (fun i hi=>by have:=hr2 i hi;omega)
 have hcl:=fun h=>copy_sat p ⟨h,by omega⟩ ⟨by omega,by omega⟩ hr1 hr2
 have hE:enterR y p node bag=_:=enterR.eq_1 y p node bag
 generalize enterR y p node bag=r at*
 refine uFN Tryz.func38 Tryz.ntmps38 ?_;intro w e X hC
 repeat refine uA ?_
 cases d1:decide (node<0) with
 |true=>
  rw[if_pos (.inl (of_decide_eq_true d1))] at hE
  subst hE
  refine uR1 @d1 ?_;intro K hK
  refine hK _ ?_;clear hK K
  refine uT ?_
  repeat refine uA ?_
  refine awp_ret ?_;rw[show Tryz.f38.results.toList=[.cell 8 34, .tmp 9] from rfl];first|refine uRN ?_|exact uRM
  rfl
 |false=>
 have g1:=of_decide_eq_false d1
 cases d2:decide ((y.nodes.length:Int)<=node) with
 |true=>
  rw[if_pos (.inr (.inl (of_decide_eq_true d2)))] at hE
  subst hE
  refine uR1 (uI @d1 @d2) ?_;intro K hK
  refine hK _ ?_;clear hK K
  refine uT ?_
  repeat refine uA ?_
  refine awp_ret ?_;rw[show Tryz.f38.results.toList=[.cell 8 34, .tmp 9] from rfl];first|refine uRN ?_|exact uRM
  rfl
 |false=>
 have g2:=of_decide_eq_false d2
 cases d3:decide (bag<1) with
 |true=>
  rw[if_pos (.inr (.inr (.inl (of_decide_eq_true d3))))] at hE
  subst hE
  refine uR1 (uI @d1 (uI @d2 @d3)) ?_;intro K hK
  refine hK _ ?_;clear hK K
  refine uT ?_
  repeat refine uA ?_
  refine awp_ret ?_;rw[show Tryz.f38.results.toList=[.cell 8 34, .tmp 9] from rfl];first|refine uRN ?_|exact uRM
  rfl
 |false=>
 have g3:=of_decide_eq_false d3
 cases d4:decide (40<bag) with
 |true=>
  rw[if_pos (.inr (.inr (.inr (of_decide_eq_true d4))))] at hE
  subst hE
  refine uR1 (uI @d1 (uI @d2 (uI @d3 @d4))) ?_;intro K hK
  refine hK _ ?_;clear hK K
  refine uT ?_
  repeat refine uA ?_
  refine awp_ret ?_;rw[show Tryz.f38.results.toList=[.cell 8 34, .tmp 9] from rfl];first|refine uRN ?_|exact uRM
  rfl
 |false=>
 have g4:=of_decide_eq_false d4
 rw[if_neg (fun h=>by rcases h with h|h|h|h<;>omega)] at hE
 obtain⟨m,hm⟩:∃m,m=node.toNat:=⟨_,rfl⟩
 have hmm:node=(m:Int):=by omega
 rw[<-hm] at hE
 subst hmm
 have hmn:m<y.nodes.length:=by omega
 have hms:m<p.slots.length:=by omega
 have hst:=hp.st m hmn
 have hrow:=hp.row m hmn
 have hrl:=hr1 m hms
 generalize whereP p bag=wq at*
 obtain⟨q1,q2,q3⟩:=wq
 simp only at hE hwh
 generalize e2:y.nodes.getD m default=x at*
 generalize e3:p.slots.getD m []=sl at*
 refine uR1 (uI @d1 (uI @d2 (uI @d3 @d4))) ?_;intro K hK
 refine hK _ ?_;clear hK K
 refine uF ?_
 repeat refine uA1 (uI (nds_getD hmn) @e2) ?_
 refine uW ?_;refine condP _ rfl (fun c1=>?_) (fun c1=>?_)
 ·rw[if_pos c1] at hE
  subst hE
  repeat refine uA ?_
  refine awp_ret ?_;rw[show Tryz.f38.results.toList=[.cell 8 34, .tmp 9] from rfl];first|refine uRN ?_|exact uRM
  rfl
 rw[if_neg c1] at hE
 have c1':x.kd=1:=Decidable.byContradiction c1
 have hl0:0<sl.length:=by have:=hst (by rw[c1'];decide);omega
 refine uR ?_;intro K hK
 refine callP uTS (hwh) uTS uTS uTS ?_;refine uS ?_
 refine hK _ ?_;clear hK K
 repeat refine uA ?_
 cases q3 with
 |true=>
  rw[if_pos rfl] at hE
  subst hE
  refine uT ?_
  repeat refine uA ?_
  refine awp_ret ?_;rw[show Tryz.f38.results.toList=[.cell 8 34, .tmp 9] from rfl];first|refine uRN ?_|exact uRM
  rfl
 |false=>
 rw[if_neg (by decide)] at hE
 refine uF ?_
 repeat refine uA1 (uI (rows_getD hms) (uI @e3 (uI (ints_getD hl0) @Int.toNat_zero))) ?_
 refine uW ?_;refine condP _ rfl (fun c3=>?_) (fun c3=>?_)
 ·rw[if_pos c3] at hE
  subst hE
  repeat refine uA ?_
  refine awp_ret ?_;rw[show Tryz.f38.results.toList=[.cell 8 34, .tmp 9] from rfl];first|refine uRN ?_|exact uRM
  rfl
 ·rw[if_neg c3] at hE
  subst hE
  refine uR ?_;intro K hK
  have z:=@Bool.or_true;refine callE [] [(157,48,100,1),(401,48,101,1)] false ((hcl (by omega))) (uTR1 z) (uTR1 z) (uTE1 z) (uTE1 z) (uTE1 z) (uTE1 z) (uTE1 z) (uTE1 z) (uTE1 z) (uTE1 z) (uTE1 z) (uTE1 z) (uTE1 z) (uTE1 z) (uTE1 z) (uTE1 z) (uTE1 z) ?_;refine uQS1 z ?_;clear z
  refine hK _ ?_;clear hK K
  (repeat first|refine awp_seq ?_|refine awp_skip ?_|refine awp_block ?_);refine awp_region hC rfl fun K hK=>?_;simp only[go_sem,Nat.reduceAdd,Nat.reduceSub,Nat.reduceMul,Nat.reduceLT,Nat.reduceEqDiff,Nat.reduceBEq,Nat.reduceLeDiff,Int.reduceToNat,↓reduceIte,Int.reduceEq,Int.reduceLT,Int.reduceLE,Int.reduceAdd,Int.reduceSub,Int.reduceNeg,reduceCtorEq,krows_getD hms,e3,Int.toNat_zero]
  refine uH ?_
  refine hK _ ?_;clear hK K
  have hsk:∀v,((krows 3 p.slots).set m v).getD m .bad=v:=fun v=>by
   rw[getD_set2,if_pos ⟨rfl,by rw[krows_length];exact hms⟩]
  have hlk:(sl.set 0 bag).length=sl.length:=List.length_set
  refine awp_attach (id:=157) (gi:=48) (t:=22) (k:=1) (i:=m) (rid:=162) (rg:=55) (n:=sl.length) rfl (by rw[List.length_set,krows_length];exact hms) (hsk _) (by decide) ?_ ?_
  ·simp only[go_sem,Nat.reduceAdd,Nat.reduceSub,Nat.reduceMul,Nat.reduceLT,Nat.reduceEqDiff,Nat.reduceBEq,Nat.reduceLeDiff,Int.reduceToNat,↓reduceIte,Int.reduceEq,Int.reduceLT,Int.reduceLE,Int.reduceAdd,Int.reduceSub,Int.reduceNeg,reduceCtorEq,attP,hlk]
  ·simp only[go_sem,Nat.reduceAdd,Nat.reduceSub,Nat.reduceMul,Nat.reduceLT,Nat.reduceEqDiff,Nat.reduceBEq,Nat.reduceLeDiff,Int.reduceToNat,↓reduceIte,Int.reduceEq,Int.reduceLT,Int.reduceLE,Int.reduceAdd,Int.reduceSub,Int.reduceNeg,reduceCtorEq,att,List.set_set]
   repeat refine uA ?_
   refine awp_ret ?_;rw[show Tryz.f38.results.toList=[.cell 8 34, .tmp 9] from rfl];first|refine uRN ?_|exact uRM
open Go.Plant
section
variable {A n:Nat} {y:Ly} {p:Pl} {m:Nat}
theorem gbags_sat (h:PInv y p (upF 1 m)) (hm:m<=40):SatG Tryz.prog tab 19 [] [p.av] [] (IS (upF 1 m)):=by
 rw[<-bagsP_eq h hm]
 have hx:=h.fp.xl
 have hs:=h.fp.sl
 have hb:=h.fp.bl
 exact bags11_sat p (by omega) (by omega) (fun i hi=>by have:=h.fp.row i (by omega);have:=h.fp.ln i (by omega);omega) (fun i hi=>by have:=h.fp.bin i (by omega);omega)
theorem gwhere_sat {L:List Int} (h:PInv y p L) (b:Int):SatG Tryz.prog tab 23 [] [p.av,I b] [] (whereAV (whereP p b)):=by
 have hx:=h.fp.xl
 have hs:=h.fp.sl
 have hb:=h.fp.bl
 exact where_sat p b (by omega) (by omega) (fun i hi=>by have:=h.fp.row i (by omega);have:=h.fp.ln i (by omega);omega) (fun i hi=>by have:=h.fp.bin i (by omega);omega)
end
open Go.Plant
theorem valid_pos {y:Ly} (h:validE y=0):0<y.nodes.length:=by
 refine Decidable.byContradiction fun hn=>?_
 have h0:y.nodes=[]:=List.length_eq_zero_iff.1 (by omega)
 have he:entB y.nodes=false:=by rw[h0];rfl
 rw[validE] at h
 split at h
 ·cases h
 ·split at h
  ·rename_i h1;exact h1 h
  ·split at h
   ·cases h
   ·split at h
    ·cases h
    ·split at h
     ·cases h
     ·split at h
      ·cases h
      ·split at h
       ·rename_i h1;exact h1 h
       ·first|cases h|(rw[if_pos he] at h;cases h)
structure SmlP (p:Pl):Prop where
 s:p.slots.length<=1000
 b:p.bins.length<=1000
 sr:∀i,i<p.slots.length->(p.slots.getD i []).length<=1000
 br:∀i,i<p.bins.length->(p.bins.getD i []).length<=1000
theorem SmlP.fit {xs:List Nd} {p:Pl} (h:FitP xs p):SmlP p:=by
 have hx:=h.xl
 have hs:=h.sl
 have hb:=h.bl
 exact⟨by omega,by omega,fun i hi=>by have:=h.row i (by omega);have:=h.ln i (by omega);omega,fun i hi=>by have:=h.bin i (by omega);omega⟩
theorem SmlP.nil:SmlP ⟨[],[]⟩:=⟨by simp,by simp,by simp,by simp⟩
theorem SmlP.new {y:Ly} (h:Sml7 y):SmlP (newP y):=by
 have hn:=h.n
 rw[newP]
 split
 ·rename_i hv
  obtain⟨l1,l2⟩:=emptyP_len y.nodes y.nodes.length
  refine⟨by omega,by omega,fun i hi=>?_,fun i hi=>?_⟩
  ·have:=(nodeE_len (validE_nodes hv i (by omega)))
   have e:((emptyP y.nodes y.nodes.length).slots.getD i [])=List.replicate (y.nodes.getD i default).ln.toNat 0:=by
    simp[emptyP,show i<y.nodes.length by omega]
   rw[e,List.length_replicate];omega
  ·have e:((emptyP y.nodes y.nodes.length).bins.getD i [])=[]:=by simp[emptyP,List.getElem?_replicate];split<;>rfl
   rw[e];simp
 ·exact .nil
theorem SmlP.enter {y:Ly} {p:Pl} (h:SmlP p) (node bag:Int):SmlP (enterR y p node bag).1:=by
 rw[enterR]
 split
 ·exact .nil
 ·split
  ·exact .nil
  ·split
   ·exact .nil
   ·split
    ·exact .nil
    ·refine⟨by simp only[List.length_set];exact h.s,h.b,fun i hi=>?_,h.br⟩
     simp only[List.length_set] at hi
     simp only
     rw[getD_set2]
     split
     ·rename_i h2;rw[List.length_set,h2.1];exact h.sr i hi
     ·exact h.sr i hi
theorem SmlP.same_sat {p:Pl} (h:SmlP p):SatG Tryz.prog tab 18 [] [p.av,p.av] [] (B true):=by
 have hs:=h.s
 have hb:=h.b
 have:=Go.Proofs.YtkhjenddapaejaaGreatDoor.same_sat p p h.s h.b (fun r hr=>by
  obtain⟨i,hi,rfl⟩:=List.getElem_of_mem hr
  have:=h.sr i hi
  rw[show p.slots.getD i []=p.slots[i] by simp[hi]] at this;omega) (fun r hr=>by
  obtain⟨i,hi,rfl⟩:=List.getElem_of_mem hr
  have:=h.br i hi
  rw[show p.bins.getD i []=p.bins[i] by simp[hi]] at this;omega) (by omega) (by omega)
 rwa[decide_eq_true ⟨rfl,rfl⟩] at this
theorem SmlP.same2_sat {p q:Pl} (h:SmlP p) (h2:SmlP q):SatG Tryz.prog tab 18 [] [p.av,q.av] [] (B (decide (p.slots=q.slots/\p.bins=q.bins))):=by
 have hs:=h2.s
 have hb:=h2.b
 exact Go.Proofs.YtkhjenddapaejaaGreatDoor.same_sat p q h.s h.b (fun r hr=>by
  obtain⟨i,hi,rfl⟩:=List.getElem_of_mem hr
  have:=h.sr i hi
  rw[show p.slots.getD i []=p.slots[i] by simp[hi]] at this;omega) (fun r hr=>by
  obtain⟨i,hi,rfl⟩:=List.getElem_of_mem hr
  have:=h.br i hi
  rw[show p.bins.getD i []=p.bins[i] by simp[hi]] at this;omega) (by omega) (by omega)
theorem whereQ_eq {y:Ly} {p:Pl} {L:List Int} (h:PInv y p L) (hL:LOk L) (b:Int):whereQ p b=whereP p b:=by
 rw[whereQ]
 split
 ·rename_i h0
  subst h0
  rw[whereP,if_pos rfl]
  have:(p.bins.findIdx? fun r=>decide ((0:Int)∈r))=none:=fR_none fun j hj hm=>h.binpos hL (t:=j) (by rw[<-h.fp.bl];exact hj) 0 hm rfl
  simp only[this]
 ·rfl
theorem upF_asc (m:Nat):(upF 1 m).Pairwise (·<=·):=by
 rw[upF,List.pairwise_map]
 exact List.pairwise_lt_range.imp fun h=>by omega
theorem enters_law (l:List Int) (node bag nn:Int) (raw:Ly) (hl:l.length<=9223372036854775807) (hr:∀x∈l,I64 x) (hraw:raw.nodes.length<=9223372036854775807/\raw.devs.length<=9223372036854775807/\∀x∈raw.nodes,x.ex.length<=9223372036854775807)
  (haw:SatG Tryz.prog tab 10 [] [] [] (B true)):SatG Tryz.prog tab 9 [] [IS l,I node,I bag,I nn,raw.av] [] (B true):=by
 have hnew:=new_sat l hl
 have hf:=cut2_fits hr
 generalize cut2 l=l' at*
 have hlay:=layout_sat l' 0 hf
 obtain⟨A,n,hg⟩:=gL_good l' 0
 generalize gL l' 0=gl at*
 obtain⟨y,a0⟩:=gl
 simp only at hg hlay
 obtain⟨hN,hN0,hln⟩:=hg.sum
 have hpl:=plant_sat l' a0 6 y hf (by omega) (by omega) hln
 obtain⟨m,hm,-,hgp⟩:=gPl_gen hg.g l' a0 6 (by omega)
 have hL:=upF_ok (m:=m) (by omega)
 generalize gPl l' a0 y.nodes 6=gp at*
 obtain⟨p,a1⟩:=gp
 simp only at hpl hgp
 have hpl2:=plant_sat l' a1 3 y hf (by omega) (by omega) hln
 obtain⟨m2,hm2,-,hgp2⟩:=gPl_gen hg.g l' a1 3 (by omega)
 generalize gPl l' a1 y.nodes 3=gp2 at*
 obtain⟨p2,a2⟩:=gp2
 simp only at hpl2 hgp2
 refine uFN Tryz.func9 Tryz.ntmps9 ?_;intro w e X hC
 refine uA ?_
 refine awp_seq ?_
 refine awp_merge (fun q:Nat=>⟨[(0,IS l),(1,I node),(2,I bag),(3,I nn),(9, .ptO 109 1 0 0 0)],(109,some (1, .box [.sl (nds raw.nodes) false, .sl (t3s raw.devs) false]))::[],q⟩) (fun _=>raw.nodes.length<=40/\raw.devs.length<=60) ?_ ?_
 ·by_cases c1:raw.nodes.length<=40
  ·have d1:decide (40<(raw.nodes.length:Int))=false:=decide_eq_false (by omega)
   by_cases c2:raw.devs.length<=60
   ·have d2:decide (60<(raw.devs.length:Int))=false:=decide_eq_false (by omega)
    refine uR1 (uI @d1 @d2) ?_;intro K hK
    refine hK _ ?_;clear hK K
    refine uF ?_
    refine uW ?_
    refine⟨_,⟨c1,c2⟩,uKF⟩
   ·have d2:decide (60<(raw.devs.length:Int))=true:=decide_eq_true (by omega)
    refine uR1 (uI @d1 @d2) ?_;intro K hK
    refine hK _ ?_;clear hK K
    refine uT ?_
    refine uR ?_;intro K hK
    refine callF uTS (haw) uTS uTS uTS ?_;refine uS ?_
    refine hK _ ?_;clear hK K
    (refine awp_ret (ret1 uRT ?_);try rfl)
  ·have d1:decide (40<(raw.nodes.length:Int))=true:=decide_eq_true (by omega)
   refine uR1 @d1 ?_;intro K hK
   refine hK _ ?_;clear hK K
   refine uT ?_
   refine uR ?_;intro K hK
   refine callF uTS (haw) uTS uTS uTS ?_;refine uS ?_
   refine hK _ ?_;clear hK K
   (refine awp_ret (ret1 uRT ?_);try rfl)
 ·rintro ck0 ⟨hr1,hr2⟩
  refine uA ?_
  refine awp_merge (fun q:Nat=>⟨[(0,IS l),(1,I node),(2,I bag),(3,I nn),(9, .ptO 109 1 0 0 0)],(109,some (1, .box [.sl (nds raw.nodes) false, .sl (t3s raw.devs) false]))::[],q⟩) (fun _=>∀i,i<raw.nodes.length->(raw.nodes.getD i default).ex.length<=20/\(bs (raw.nodes.getD i default).nm).length<=60) ?_ ?_
  ·refine uW ?_
   refine awp_loopW (fun q:Nat×Nat=>⟨[(0,IS l),(1,I node),(2,I bag),(3,I nn),(9, .ptO 109 1 0 0 0),(11,I q.2)],(109,some (1, .box [.sl (nds raw.nodes) false, .sl (t3s raw.devs) false]))::[],q.1⟩) (fun q=>q.2<=raw.nodes.length/\∀i,i<q.2->(raw.nodes.getD i default).ex.length<=20/\(bs (raw.nodes.getD i default).nm).length<=60) (fun q=>raw.nodes.length - q.2) (_,0) ⟨Nat.zero_le _,fun i hi=>absurd hi (Nat.not_lt_zero _)⟩ (uKF) ?_
   rintro⟨ck,i⟩ ⟨hi,hall⟩
   simp only at hi hall
   refine uA ?_
   refine uW ?_;refine condP _ rfl (fun h=>?_) (fun h=>?_)
   ·have hlt:i<raw.nodes.length:=by omega
    have hnx:=fun(h:(raw.nodes.getD i default).ex.length<=20/\(bs (raw.nodes.getD i default).nm).length<=60) (j:Nat) (hj:j<i+1)=>(if e:j=i then by subst e;exact h else hall j (by omega):(raw.nodes.getD j default).ex.length<=20/\(bs (raw.nodes.getD j default).nm).length<=60)
    have hx0:=hraw.2.2 _ (mem_getD (d:=default) hlt)
    generalize e2:raw.nodes.getD i default=x at*
    by_cases c1:x.ex.length<=20
    ·have d1:decide (20<(x.ex.length:Int))=false:=decide_eq_false (by omega)
     have hbs:(bs x.nm).length=x.nm.size:=bs_size _
     by_cases c2:x.nm.size<=60
     ·have d2:decide (60<(x.nm.size:Int))=false:=decide_eq_false (by omega)
      refine uR1 (uI (nds_getD hlt) (uI @e2 (uI @d1 @d2))) ?_;intro K hK
      refine uH ?_
      refine hK _ ?_;clear hK K
      refine uF ?_
      repeat refine uA ?_
      refine⟨(_,i+1),⟨by simp only;omega,hnx ⟨c1,by omega⟩⟩,by simp only;omega,uKF⟩
     ·have d2:decide (60<(x.nm.size:Int))=true:=decide_eq_true (by omega)
      refine uR1 (uI (nds_getD hlt) (uI @e2 (uI @d1 @d2))) ?_;intro K hK
      refine uH ?_
      refine hK _ ?_;clear hK K
      refine uT ?_
      refine uR ?_;intro K hK
      refine callF uTS (haw) uTS uTS uTS ?_;refine uS ?_
      refine hK _ ?_;clear hK K
      (refine awp_ret (ret1 uRT ?_);try rfl)
    ·have d1:decide (20<(x.ex.length:Int))=true:=decide_eq_true (by omega)
     refine uR1 (uI (nds_getD hlt) (uI @e2 @d1)) ?_;intro K hK
     refine uH ?_
     refine hK _ ?_;clear hK K
     refine uT ?_
     refine uR ?_;intro K hK
     refine callF uTS (haw) uTS uTS uTS ?_;refine uS ?_
     refine hK _ ?_;clear hK K
     (refine awp_ret (ret1 uRT ?_);try rfl)
   ·refine awp_exit ?_
    have hie:i=raw.nodes.length:=by omega
    repeat refine uA ?_
    refine⟨_,fun i hi=>hall i (by omega),uKF⟩
  ·rintro ck1 hall
   have hsm:Sml7 raw:=⟨by omega,by omega,fun i hi=>by have:=(hall i hi).1;omega,fun i hi=>by have:=(hall i hi).2;omega⟩
   refine uR ?_;intro K hK
   refine callE [] [(173,ck1+1,100,1)] false (hnew) uTR uTR uTE uTE uTE uTE uTE uTE uTE uTE uTE uTE uTE uTE uTE uTE uTE ?_;refine uQS ?_
   refine hK _ ?_;clear hK K
   refine awp_weak (s':=⟨[(1,I node),(2,I bag),(3,I nn),(9, .ptO 109 1 0 0 0),(12, .ptO 173 (ck1+1) 0 0 0)],(173,some (ck1+1, .box [IS l',I (min 0 l'.length:Nat)]))::(109,some (1, .box [.sl (nds raw.nodes) false, .sl (t3s raw.devs) false]))::[],_⟩) (.of (Nat.le_refl _) (uHF1 (uI @Nat.zero_min @Int.natCast_zero)) uWF) ?_
   refine uR ?_;intro K hK
   refine callL rfl (hlay) uTS uTS uTS uTS uTS ?_;refine uS ?_
   refine hK _ ?_;clear hK K
   refine uD ?_;intro K hK
   refine callL rfl (hpl) uTS uTS uTS uTS uTS ?_;refine uS ?_
   refine callL rfl (hpl2) uTS uTS uTS uTS uTS ?_;refine uS ?_
   refine uH ?_
   refine hK _ ?_;clear hK K
   have hnr:=pnew_sat raw hsm valid_pos
   have hnr2:=rnew_sat raw hsm valid_pos
   have hny:=pnew_sat y hg.sml valid_pos
   have hny2:=rnew_sat y hg.sml valid_pos
   have hs1:=(SmlP.new hsm).same_sat
   have hs2:=(SmlP.new hg.sml).same_sat
   have hinv:=hgp.inv
   have hp40:m<=40:=by omega
   have hbg:=pbags_sat p (upF 1 m) hinv.fp.sl hinv.fp.bl (by have:=hinv.fp.xl;omega) (fun i hi=>(SmlP.fit hinv.fp).sr i (by rw[hinv.fp.sl];exact hi)) (fun i hi=>(SmlP.fit hinv.fp).br i (by rw[hinv.fp.bl];exact hi)) hinv.perm.symm (upF_asc m) (by rw[upF_len];omega)
   have hbg2:=gbags_sat hinv hp40
   have hii:=ints_sat (upF 1 m) (upF 1 m) (by rw[upF_len];omega)
   rw[decide_eq_true rfl] at hii
   have hsp:=SmlP.fit hinv.fp
   have hsp2:=SmlP.fit hgp2.inv.fp
   have hpq:=psame_sat p p2 hsp.s hsp.b hsp2.s hsp2.b hsp.sr hsp.br hsp2.sr hsp2.br
   have hpq2:=hsp.same2_sat hsp2
   have hpp:=psame_sat p p hsp.s hsp.b hsp.s hsp.b hsp.sr hsp.br hsp.sr hsp.br
   rw[decide_eq_true ⟨rfl,rfl⟩] at hpp
   have hb1:=pbound_sat y nn hg.sml
   have hb2:=rbound_sat y nn hg.sml
   have hb3:=pbound_sat raw 3 hsm
   have hb4:=rbound_sat raw 3 hsm
   generalize newP raw=qr at*
   generalize validE raw=er at*
   generalize newP y=qy at*
   generalize validE y=ey at*
   generalize decide (p.slots=p2.slots/\p.bins=p2.bins)=bq at*
   generalize clampN nn*winR y=z1 at*
   generalize clampN 3*winR raw=z2 at*
   refine uR ?_;intro K hK
   refine callP uTS (hnr) uTS uTS uTS ?_;refine uS ?_
   refine hK _ ?_;clear hK K
   refine uR ?_;intro K hK
   refine callP uTS (hnr2) uTS uTS uTS ?_;refine uS ?_
   refine hK _ ?_;clear hK K
   refine uR ?_;intro K hK
   refine callP uTS (hny) uTS uTS uTS ?_;refine uS ?_
   refine hK _ ?_;clear hK K
   refine uR ?_;intro K hK
   refine callP uTS (hny2) uTS uTS uTS ?_;refine uS ?_
   refine hK _ ?_;clear hK K
   have dq:(!(bq==bq))=false:=by simp
   refine uE ?_;intro K hK
   refine callF uTS (hs1) uTS uTS uTS ?_;refine uS ?_
   refine callF uTS (hs2) uTS uTS uTS ?_;refine uS ?_
   refine callP uTS (hbg) uTS uTS uTS ?_;refine uS ?_
   refine callP uTS (hbg2) uTS uTS uTS ?_;refine uS ?_
   refine callF (rc:=B true) ?_ ?_ ?_ ?_ ?_ ?_;(focus (first|exact trivial|(simp only[go_sem,Nat.reduceAdd,Nat.reduceSub,Nat.reduceMul,Nat.reduceLT,Nat.reduceEqDiff,Nat.reduceBEq,Nat.reduceLeDiff,Int.reduceToNat,↓reduceIte,Int.reduceEq,Int.reduceLT,Int.reduceLE,Int.reduceAdd,Int.reduceSub,Int.reduceNeg,reduceCtorEq,]<;>trivial)));(focus (simp only[go_sem,Nat.reduceAdd,Nat.reduceSub,Nat.reduceMul,Nat.reduceLT,Nat.reduceEqDiff,Nat.reduceBEq,Nat.reduceLeDiff,Int.reduceToNat,↓reduceIte,Int.reduceEq,Int.reduceLT,Int.reduceLE,Int.reduceAdd,Int.reduceSub,Int.reduceNeg,reduceCtorEq,];exact hii));(focus (first|exact trivial|(simp only[go_sem,Nat.reduceAdd,Nat.reduceSub,Nat.reduceMul,Nat.reduceLT,Nat.reduceEqDiff,Nat.reduceBEq,Nat.reduceLeDiff,Int.reduceToNat,↓reduceIte,Int.reduceEq,Int.reduceLT,Int.reduceLE,Int.reduceAdd,Int.reduceSub,Int.reduceNeg,reduceCtorEq,]<;>trivial)));(focus (first|exact trivial|(simp only[go_sem,Nat.reduceAdd,Nat.reduceSub,Nat.reduceMul,Nat.reduceLT,Nat.reduceEqDiff,Nat.reduceBEq,Nat.reduceLeDiff,Int.reduceToNat,↓reduceIte,Int.reduceEq,Int.reduceLT,Int.reduceLE,Int.reduceAdd,Int.reduceSub,Int.reduceNeg,reduceCtorEq,]<;>trivial)));(focus (first|exact trivial|(simp only[go_sem,Nat.reduceAdd,Nat.reduceSub,Nat.reduceMul,Nat.reduceLT,Nat.reduceEqDiff,Nat.reduceBEq,Nat.reduceLeDiff,Int.reduceToNat,↓reduceIte,Int.reduceEq,Int.reduceLT,Int.reduceLE,Int.reduceAdd,Int.reduceSub,Int.reduceNeg,reduceCtorEq,]<;>trivial)));first|refine uS ?_|exact uX
   refine callF uTS (hpq) uTS uTS uTS ?_;refine uS ?_
   refine callF uTS (hpq2) uTS uTS uTS ?_;refine uS ?_
   first|refine uS1 @dq ?_|exact uX1 @dq
   refine callF uTS (hpp) uTS uTS uTS ?_;refine uS ?_
   refine callF uTS (hb1) uTS uTS uTS ?_;refine uS ?_
   refine callF uTS (hb2) uTS uTS uTS ?_;refine uS ?_
   refine callF uTS (hb3) uTS uTS uTS ?_;refine uS ?_
   refine callF uTS (hb4) uTS uTS uTS ?_;refine uS ?_
   refine hK _ ?_;clear hK K
   refine uF ?_
   refine uA ?_
   have hmo:=fun(b:Int)=>whereQ_eq hinv hL b
   clear hnr hnr2 hny hny2 hs1 hs2 hbg hbg2 hii hpq hpq2 hpp hb1 hb2 hb3 hb4 hsp2 hpl hpl2 hlay hnew hgp2
   refine awp_weak (s':=⟨[(1,I node),(2,I bag),(3,I nn),(12, .ptO 173 (ck1+1) 0 0 0),(13, .ptO 113 (ck1+5) 0 0 0),(14, .ptO 114 (ck1+13) 0 0 0),(24,I (0:Nat))],(114,some (ck1+13, .box [RS p.slots,RS p.bins]))::(113,some (ck1+5, .box [.sl (nds y.nodes) false, .sl (t3s y.devs) false]))::(173,some (ck1+1, .box [IS l',I (min a2 l'.length:Nat)]))::[],_⟩) (uKF) ?_
   refine uW ?_
   refine awp_loopW (fun q:Nat×Nat×Nat=>⟨[(1,I node),(2,I bag),(3,I nn),(12, .ptO 173 (ck1+1) 0 0 0),(13, .ptO 113 (ck1+5) 0 0 0),(14, .ptO 114 (ck1+13) 0 0 0),(24,I q.2.1)],(114,some (ck1+13, .box [RS p.slots,RS p.bins]))::(113,some (ck1+5, .box [.sl (nds y.nodes) false, .sl (t3s y.devs) false]))::(173,some (ck1+1, .box [IS l',I (min q.2.2 l'.length:Nat)]))::[],q.1⟩)
    (fun q=>q.2.1<=6) (fun q=>6 - q.2.1) (_,0,a2) (Nat.zero_le _) (uKF) ?_
   rintro⟨ck,i,a⟩ hi
   simp only at hi
   refine uA ?_
   refine uW ?_;refine condP _ rfl (fun h9=>?_) (fun h9=>?_)
   ·have h1:=gR_sat l' a (-1) y.nodes.length hf (by omega) (by omega) (by omega)
    have h2:=gR_sat l' (a+1) 0 9 hf (by omega) (by omega) (by omega)
    generalize gR l' a (-1) y.nodes.length=u0 at*
    generalize gR l' (a+1) 0 9=v0 at*
    refine uR ?_;intro K hK
    refine callL rfl (h1) uTS uTS uTS uTS uTS ?_;refine uS ?_
    refine callL rfl (h2) uTS uTS uTS uTS uTS ?_;refine uS ?_
    refine uH ?_
    refine hK _ ?_;clear hK K
    refine awp_seq ?_
    refine awp_merge (fun q:Nat×Int×Int=>⟨[(1,I node),(2,I bag),(3,I nn),(12, .ptO 173 (ck1+1) 0 0 0),(13, .ptO 113 (ck1+5) 0 0 0),(14, .ptO 114 (ck1+13) 0 0 0),(24,I i),(25,I q.2.1),(26,I q.2.2)],(114,some (ck1+13, .box [RS p.slots,RS p.bins]))::(113,some (ck1+5, .box [.sl (nds y.nodes) false, .sl (t3s y.devs) false]))::(173,some (ck1+1, .box [IS l',I (min (a+1+1) l'.length:Nat)]))::[],q.1⟩) (fun _=>True) ?_ ?_
    ·by_cases c0:i=0
     ·have d0:decide ((i:Int)=0)=true:=decide_eq_true (by omega)
      repeat first|refine uC ?_|refine uA1 @d0 ?_
      refine⟨(_,node,bag),trivial,uKF⟩
     ·have d0:decide ((i:Int)=0)=false:=decide_eq_false (by omega)
      repeat first|refine uC ?_|refine uA1 @d0 ?_
      refine uW ?_
      refine⟨(_,u0,v0),trivial,uKF⟩
    ·rintro⟨ck2,u,v⟩ -
     refine awp_seq ?_
     refine awp_merge (fun q:Nat×Int=>⟨[(1,I node),(2,I bag),(3,I nn),(12, .ptO 173 (ck1+1) 0 0 0),(13, .ptO 113 (ck1+5) 0 0 0),(14, .ptO 114 (ck1+13) 0 0 0),(24,I i),(25,I q.2),(26,I v)],(114,some (ck1+13, .box [RS p.slots,RS p.bins]))::(113,some (ck1+5, .box [.sl (nds y.nodes) false, .sl (t3s y.devs) false]))::(173,some (ck1+1, .box [IS l',I (min (a+1+1) l'.length:Nat)]))::[],q.1⟩) (fun _=>True) ?_ ?_
     ·by_cases c0:3<i
      ·have d0:decide (3<(i:Int))=true:=decide_eq_true (by omega)
       repeat first|refine uC ?_|refine uA1 @d0 ?_
       refine⟨(_,0),trivial,uKF⟩
      ·have d0:decide (3<(i:Int))=false:=decide_eq_false (by omega)
       repeat first|refine uC ?_|refine uA1 @d0 ?_
       refine uW ?_
       refine⟨(_,u),trivial,uKF⟩
     ·rintro⟨ck3,u2⟩ -
      simp only
      have he1:=penter_sat y p u2 v hinv.fp
      have he2:=renter_sat y p u2 v hinv.fp
      have hes:=(hsp.enter (y:=y) u2 v).same_sat
      have hw1:=pwhere_sat p v hsp.s hsp.b hsp.sr hsp.br
      have hw2:=gwhere_sat hinv v
      rw[hmo v] at hw1
      generalize enterR y p u2 v=rr at*
      generalize whereP p v=ww at*
      obtain⟨qe,ee⟩:=rr
      obtain⟨w1,w2,w3⟩:=ww
      simp only at he1 he2 hes
      refine uR ?_;intro K hK
      refine callP uTS (he1) uTS uTS uTS ?_;refine uS ?_
      refine uH ?_
      refine hK _ ?_;clear hK K
      refine uR ?_;intro K hK
      refine callP uTS (he2) uTS uTS uTS ?_;refine uS ?_
      refine uH ?_
      refine hK _ ?_;clear hK K
      refine uR ?_;intro K hK
      refine callF uTS (hw1) uTS uTS uTS ?_;refine uS ?_
      refine uH ?_
      refine hK _ ?_;clear hK K
      refine uR ?_;intro K hK
      refine callF uTS (hw2) uTS uTS uTS ?_;refine uS ?_
      refine uH ?_
      refine hK _ ?_;clear hK K
      have dq3:(!(w3==w3))=false:=by simp
      have da:(!(true&&(true&&true)))=false:=rfl
      refine uR1 (uI @dq3 @da) ?_;intro K hK
      refine callF uTS (hes) uTS uTS uTS ?_;refine uS ?_
      first|refine uS1 (uI @dq3 @da) ?_|exact uX1 (uI @dq3 @da)
      refine hK _ ?_;clear hK K
      refine uF ?_
      repeat refine uA ?_
      refine⟨(_,i+1,a+1+1),by simp only;omega,by simp only;omega,uKF⟩
   ·refine awp_exit ?_
    refine uR ?_;intro K hK
    refine callF uTS (haw) uTS uTS uTS ?_;refine uS ?_
    refine hK _ ?_;clear hK K
    (refine awp_ret (ret1 uRT ?_);try rfl)
open Go.Plant
def strs (l:List ByteArray):List AV:=l.map S
theorem strs_length (l:List ByteArray):(strs l).length=l.length:=by simp[strs]
theorem strs_getD {l:List ByteArray} {i:Nat} (h:i<l.length):(strs l).getD i .bad=S (l.getD i .empty):=by simp[strs,h]
theorem PE_strs (l:List ByteArray):PE (strs l)=True:=by
 refine eq_true fun e he c hc=>?_
 simp only[strs,List.mem_map] at he
 obtain⟨x,_,rfl⟩:=he
 simp only[AV.cells,List.mem_singleton] at hc
 subst hc;trivial
theorem all_strs {l:List ByteArray}:(∀y∈strs l,y.cells.length=1)=True:=by
 refine eq_true fun e he=>?_
 simp only[strs,List.mem_map] at he
 obtain⟨x,_,rfl⟩:=he
 rfl
theorem strs_snoc {l:List ByteArray} {b:ByteArray}:strs l++[.lit (.string b)]=strs (l++[b]):=by simp[strs]
theorem lits_strs {l:List ByteArray}:(∀e∈strs l,∀c∈e.cells,isLit c)=True:=by
 refine eq_true fun e he c hc=>?_
 simp only[strs,List.mem_map] at he
 obtain⟨x,_,rfl⟩:=he
 simp only[AV.cells,List.mem_singleton] at hc
 subst hc;trivial
theorem strs_drop {l:List ByteArray} {i:Nat}:(strs l).drop i=strs (l.drop i):=by simp[strs]
theorem strs_take {l:List ByteArray} {i:Nat}:(strs l).take i=strs (l.take i):=by simp[strs]
attribute [go_sem] strs_length PE_strs all_strs strs_snoc lits_strs
def spS (b:Nat) (c:UInt8) (o:List ByteArray×ByteArray):List ByteArray×ByteArray:=if c.toNat=b then(o.1++[o.2], .empty) else(o.1,o.2++strOf [c])
def spF (s:ByteArray) (b:Nat):Nat->List ByteArray×ByteArray
 |0=>([], .empty)
 |k+1=>spS b (s.data.toList.getD k 0) (spF s b k)
def splitR (s:ByteArray) (b:Nat):List ByteArray:=(spF s b s.data.toList.length).1++[(spF s b s.data.toList.length).2]
theorem spF_size (s:ByteArray) (b:Nat):∀k,(spF s b k).2.size<=k/\(spF s b k).1.length<=k
 |0=>by simp[spF]
 |k+1=>by
  obtain⟨h1,h2⟩:=spF_size s b k
  have h3:∀c:UInt8,(strOf [c]).size=1:=fun _=>rfl
  rw[spF]
  generalize s.data.toList.getD k 0=c
  generalize spF s b k=o at*
  unfold spS
  split
  ·refine⟨Nat.zero_le _,?_⟩
   simp only[List.length_append,List.length_singleton];omega
  ·refine⟨?_,by simp only;omega⟩
   show(o.2++strOf [c]).size<=_
   rw[ByteArray.size_append,h3];omega
theorem byte_slice {l:List UInt8} {i:Nat} (h:i<l.length):(l.take (i+1)).drop i=[l.getD i 0]:=by
 rw[take_getD (d:=0) h,List.drop_append]
 simp[List.length_take,Nat.min_eq_left (Nat.le_of_lt h)]
theorem split_sat (s:ByteArray) (b:Nat) (hs:s.data.toList.length<=5000):SatG Tryz.prog tab 72 [] [S s,U8 b] [] (.sl (strs (splitR s b)) false):=by
 have hsz:s.size=s.data.toList.length:=by rw[<-bs_size,bs_len]
 refine uFN Tryz.func72 Tryz.ntmps72 ?_;intro w e X hC
 repeat refine uA ?_
 refine uW ?_
 refine awp_loopW (fun q:Nat×Nat×Nat=>⟨[(0,S s),(1,U8 b),(5, .slO 105 q.2.2 0 (spF s b q.2.1).1.length),(6,S (spF s b q.2.1).2),(7,I q.2.1)],(105,some (q.2.2, .own 9 1 (strs (spF s b q.2.1).1)))::[],q.1⟩) (fun q=>q.2.1<=s.data.toList.length) (fun q=>s.data.toList.length - q.2.1) (_,0,_) (Nat.zero_le _) (.of (Nat.le_refl _) (by repeat first|exact HOk.nil|refine uHN ?_|(refine HOk.cons ?_ ?_;(focus (simp only[go_sem,Nat.reduceAdd,Nat.reduceSub,Nat.reduceMul,Nat.reduceLT,Nat.reduceEqDiff,Nat.reduceBEq,Nat.reduceLeDiff,Int.reduceToNat,↓reduceIte,Int.reduceEq,Int.reduceLT,Int.reduceLE,Int.reduceAdd,Int.reduceSub,Int.reduceNeg,reduceCtorEq,spF];done)))) (by repeat first|exact WOk.nil|refine uWN ?_|(refine WOk.cons ?_ ?_;(focus (simp only[go_sem,Nat.reduceAdd,Nat.reduceSub,Nat.reduceMul,Nat.reduceLT,Nat.reduceEqDiff,Nat.reduceBEq,Nat.reduceLeDiff,Int.reduceToNat,↓reduceIte,Int.reduceEq,Int.reduceLT,Int.reduceLE,Int.reduceAdd,Int.reduceSub,Int.reduceNeg,reduceCtorEq,spF];done))))) ?_
 rintro⟨ck,k,g⟩ hk
 simp only at hk
 obtain⟨hz1,hz2⟩:=spF_size s b k
 have e1:spF s b (k+1)=spS b (s.data.toList.getD k 0) (spF s b k):=rfl
 have e2:k=s.data.toList.length->splitR s b=(spF s b k).1++[(spF s b k).2]:=fun h=>by rw[h];rfl
 generalize spF s b k=o at*
 obtain⟨o1,o2⟩:=o
 simp only at hz1 hz2 e2
 refine uA1 @hsz ?_
 refine uW ?_;refine condP _ rfl (fun h=>?_) (fun h=>?_)
 ·have hlt:k<s.data.toList.length:=by omega
  have hb1:=byte_slice hlt
  have hb2:(strOf [s.data.toList.getD k 0]).size=1:=rfl
  generalize hc:s.data.toList.getD k 0=c at*
  unfold spS at e1
  simp only at e1
  refine uA1 @hc ?_
  refine uW ?_;refine condP _ rfl (fun c1=>?_) (fun c1=>?_)
  ·rw[if_pos (by omega)] at e1
   repeat refine uA ?_
   refine awp_exit ?_
   repeat refine uA ?_
   refine⟨(_,k+1,g),by simp only;omega,by simp only;omega, .of (Nat.le_refl _) (uHF1 @e1) (uWF1 (uI @e1 @List.length_singleton.{0}))⟩
  ·rw[if_neg (by omega)] at e1
   have hkt:((k:Int)+1).toNat=k+1:=by omega
   repeat refine uA1 (uI @hkt (uI @hb1 @hb2)) ?_
   refine⟨(_,k+1,g),by simp only;omega,by simp only;omega, .of (Nat.le_refl _) (uHF1 @e1) (uWF1 @e1)⟩
 ·refine awp_exit ?_
  have e3:=e2 (by omega)
  repeat refine uA ?_
  rw[e3]
  refine awp_ret ?_;rw[show Tryz.f72.results.toList=[.tmp 4] from rfl];first|refine uRN1 @List.length_singleton.{0} ?_|exact uRM1 @List.length_singleton.{0}
open Go.Plant
theorem rall_sat (s:ByteArray) (hs:(bs s).length<=5000):SatG Tryz.prog tab 154 [] [S s] [] (B ((bs s).all digB)):=by
 have hbl:=bs_len s
 have hbz:=bs_size s
 refine uFN Tryz.func154 Tryz.ntmps154 ?_;intro w e X hC
 repeat refine uA ?_
 refine uW ?_
 refine awp_loopW (fun i:Nat×Nat=>⟨[(0,S s),(3,I i.2)],[],i.1⟩) (fun i=>i.2<=(bs s).length/\∀j,j<i.2->digB ((bs s).getD j 0)=true) (fun i=>(bs s).length - i.2) (_,0) ⟨Nat.zero_le _,fun j hj=>absurd hj (Nat.not_lt_zero _)⟩ (uKF) ?_
 rintro⟨ck,i⟩ ⟨hi,hj⟩
 simp only at hi hj
 repeat ((repeat first|refine awp_seq ?_|refine awp_skip ?_|refine awp_block ?_);refine awp_region hC rfl fun K hK=>?_;simp only[go_sem,Nat.reduceAdd,Nat.reduceSub,Nat.reduceMul,Nat.reduceLT,Nat.reduceEqDiff,Nat.reduceBEq,Nat.reduceLeDiff,Int.reduceToNat,↓reduceIte,Int.reduceEq,Int.reduceLT,Int.reduceLE,Int.reduceAdd,Int.reduceSub,Int.reduceNeg,reduceCtorEq,<-hbz];(repeat ((with_reducible refine And.intro ?_ ?_);focus (((repeat' apply And.intro)<;>first|omega|(simp;done)|kernel_rfl))));refine hK _ ?_;clear hK K)
 refine uW ?_;refine condP _ rfl (fun h=>?_) (fun h=>?_)
 ·have hlt:i<(bs s).length:=by omega
  have hg:=bs_getD s i
  have hbad:digB ((bs s).getD i 0)=false->(bs s).all digB=false:=fun h=>by
   rw[List.all_eq_false];exact⟨_,mem_getD (d:=0) hlt,by rw[h];decide⟩
  have hgood:digB ((bs s).getD i 0)=true->∀j,j<i+1->digB ((bs s).getD j 0)=true:=fun h j hj'=>by
   by_cases hji:j=i
   ·subst hji;exact h
   ·exact hj j (by omega)
  generalize (bs s).getD i 0=c at*
  cases d1:decide ((c:Int)<48) with
  |true=>
   have g1:=of_decide_eq_true d1
   rw[hbad (by unfold digB;rw[decide_eq_false (by omega)];rfl)]
   (repeat first|refine awp_seq ?_|refine awp_skip ?_|refine awp_block ?_);refine awp_region hC rfl fun K hK=>?_;simp only[go_sem,Nat.reduceAdd,Nat.reduceSub,Nat.reduceMul,Nat.reduceLT,Nat.reduceEqDiff,Nat.reduceBEq,Nat.reduceLeDiff,Int.reduceToNat,↓reduceIte,Int.reduceEq,Int.reduceLT,Int.reduceLE,Int.reduceAdd,Int.reduceSub,Int.reduceNeg,reduceCtorEq,hg,<-hbl,d1]
   refine uH ?_
   refine hK _ ?_;clear hK K
   refine uT ?_
   repeat refine uA ?_
   (refine awp_ret (ret1 uRT ?_);try rfl)
  |false=>
   have g1:=of_decide_eq_false d1
   cases d2:decide (57<(c:Int)) with
   |true=>
    have g2:=of_decide_eq_true d2
    rw[hbad (by unfold digB;rw[decide_eq_false (show ¬(c:Int)<=57 by omega),Bool.and_false])]
    (repeat first|refine awp_seq ?_|refine awp_skip ?_|refine awp_block ?_);refine awp_region hC rfl fun K hK=>?_;simp only[go_sem,Nat.reduceAdd,Nat.reduceSub,Nat.reduceMul,Nat.reduceLT,Nat.reduceEqDiff,Nat.reduceBEq,Nat.reduceLeDiff,Int.reduceToNat,↓reduceIte,Int.reduceEq,Int.reduceLT,Int.reduceLE,Int.reduceAdd,Int.reduceSub,Int.reduceNeg,reduceCtorEq,hg,<-hbl,d1,d2]
    refine uH ?_
    refine hK _ ?_;clear hK K
    refine uT ?_
    repeat refine uA ?_
    (refine awp_ret (ret1 uRT ?_);try rfl)
   |false=>
    have g2:=of_decide_eq_false d2
    (repeat first|refine awp_seq ?_|refine awp_skip ?_|refine awp_block ?_);refine awp_region hC rfl fun K hK=>?_;simp only[go_sem,Nat.reduceAdd,Nat.reduceSub,Nat.reduceMul,Nat.reduceLT,Nat.reduceEqDiff,Nat.reduceBEq,Nat.reduceLeDiff,Int.reduceToNat,↓reduceIte,Int.reduceEq,Int.reduceLT,Int.reduceLE,Int.reduceAdd,Int.reduceSub,Int.reduceNeg,reduceCtorEq,hg,<-hbl,d1,d2]
    refine uH ?_
    refine hK _ ?_;clear hK K
    refine uF ?_
    repeat refine uA ?_
    refine⟨(_,i+1),⟨by simp only;omega,hgood (by unfold digB;rw[decide_eq_true (show(48:Int)<=c by omega),decide_eq_true (show(c:Int)<=57 by omega)];rfl)⟩,by simp only;omega,uKF⟩
 ·refine awp_exit ?_
  have:(bs s).all digB=true:=by
   rw[List.all_eq_true]
   intro x hx
   obtain⟨j,hj2,rfl⟩:=List.getElem_of_mem hx
   have:=hj j (by omega)
   simpa[hj2] using this
  rw[this]
  repeat refine uA ?_
  (refine awp_ret (ret1 uRT ?_);try rfl)
def valF (s:ByteArray):Nat->Int
 |0=>0
 |k+1=>valF s k*10+(((bs s).getD k 0:Nat) - 48)
theorem valF_le {s:ByteArray} (h:∀j,j<(bs s).length->digB ((bs s).getD j 0)=true):∀k,k<=(bs s).length->0<=valF s k/\valF s k<10^k
 |0,_=>by simp[valF]
 |k+1,hk=>by
  obtain⟨h1,h2⟩:=valF_le h k (by omega)
  have:=h k (by omega)
  simp only[digB,Bool.and_eq_true,decide_eq_true_eq] at this
  rw[valF,Int.pow_succ]
  omega
theorem rvalue_sat (s:ByteArray) (hs:(bs s).length<=3) (hd:∀j,j<(bs s).length->digB ((bs s).getD j 0)=true):SatG Tryz.prog tab 155 [] [S s] [] (I (valF s (bs s).length)):=by
 have hbl:=bs_len s
 have hbz:=bs_size s
 refine uFN Tryz.func155 Tryz.ntmps155 ?_;intro w e X hC
 repeat refine uA ?_
 refine uW ?_
 refine awp_loopW (fun i:Nat×Nat=>⟨[(0,S s),(3,I (valF s i.2)),(4,I i.2)],[],i.1⟩) (fun i=>i.2<=(bs s).length) (fun i=>(bs s).length - i.2) (_,0) (Nat.zero_le _) (.of (Nat.le_refl _) (by repeat first|exact HOk.nil|refine uHN ?_|(refine HOk.cons ?_ ?_;(focus (simp only[go_sem,Nat.reduceAdd,Nat.reduceSub,Nat.reduceMul,Nat.reduceLT,Nat.reduceEqDiff,Nat.reduceBEq,Nat.reduceLeDiff,Int.reduceToNat,↓reduceIte,Int.reduceEq,Int.reduceLT,Int.reduceLE,Int.reduceAdd,Int.reduceSub,Int.reduceNeg,reduceCtorEq,valF];done)))) (by repeat first|exact WOk.nil|refine uWN ?_|(refine WOk.cons ?_ ?_;(focus (simp only[go_sem,Nat.reduceAdd,Nat.reduceSub,Nat.reduceMul,Nat.reduceLT,Nat.reduceEqDiff,Nat.reduceBEq,Nat.reduceLeDiff,Int.reduceToNat,↓reduceIte,Int.reduceEq,Int.reduceLT,Int.reduceLE,Int.reduceAdd,Int.reduceSub,Int.reduceNeg,reduceCtorEq,valF];done))))) ?_
 rintro⟨ck,i⟩ hi
 simp only at hi
 obtain⟨v1,v2⟩:=valF_le hd i hi
 have hp:(10:Int)^i<=10^3:=by
  have:i=0\/i=1\/i=2\/i=3:=by omega
  rcases this with rfl|rfl|rfl|rfl<;>decide
 have e1:valF s (i+1)=valF s i*10+(((bs s).getD i 0:Nat) - 48):=rfl
 have efin:i=(bs s).length->valF s (bs s).length=valF s i:=fun h=>by rw[h]
 generalize valF s i=v at*
 iterate 1 ((repeat first|refine awp_seq ?_|refine awp_skip ?_|refine awp_block ?_);refine awp_region hC rfl fun K hK=>?_;simp only[go_sem,Nat.reduceAdd,Nat.reduceSub,Nat.reduceMul,Nat.reduceLT,Nat.reduceEqDiff,Nat.reduceBEq,Nat.reduceLeDiff,Int.reduceToNat,↓reduceIte,Int.reduceEq,Int.reduceLT,Int.reduceLE,Int.reduceAdd,Int.reduceSub,Int.reduceNeg,reduceCtorEq,<-hbz];(repeat ((with_reducible refine And.intro ?_ ?_);focus (((repeat' apply And.intro)<;>first|omega|(simp;done)|kernel_rfl))));refine hK _ ?_;clear hK K)
 refine uW ?_;refine condP _ rfl (fun h=>?_) (fun h=>?_)
 ·have hlt:i<(bs s).length:=by omega
  have hg:=bs_getD s i
  have hdi:=hd i hlt
  simp only[digB,Bool.and_eq_true,decide_eq_true_eq] at hdi
  generalize (bs s).getD i 0=c at*
  have hwu:IntKind.u8.wrap ((c:Int) - 48)=(c:Int) - 48:=by
   simp only[IntKind.wrap,IntKind.bits,IntKind.signed,Bool.false_and,Bool.false_eq_true,false_and,if_false]
   omega
  have hwi:IntKind.i64.wrap ((c:Int) - 48)=(c:Int) - 48:=wrap_i64 ⟨by omega,by omega⟩
  repeat ((repeat first|refine awp_seq ?_|refine awp_skip ?_|refine awp_block ?_);refine awp_region hC rfl fun K hK=>?_;simp only[go_sem,Nat.reduceAdd,Nat.reduceSub,Nat.reduceMul,Nat.reduceLT,Nat.reduceEqDiff,Nat.reduceBEq,Nat.reduceLeDiff,Int.reduceToNat,↓reduceIte,Int.reduceEq,Int.reduceLT,Int.reduceLE,Int.reduceAdd,Int.reduceSub,Int.reduceNeg,reduceCtorEq,hg,<-hbl,hwu,hwi];(repeat ((with_reducible refine And.intro ?_ ?_);focus (((repeat' apply And.intro)<;>first|omega|(simp;done)|kernel_rfl))));refine hK _ ?_;clear hK K)
  refine⟨(_,i+1),by simp only;omega,by simp only;omega, .of (Nat.le_refl _) uHF (uWF1 @e1)⟩
 ·refine awp_exit ?_
  have hf:=efin (by omega)
  rw[hf]
  repeat refine uA ?_
  (refine awp_ret (ret1 uRT ?_);try rfl)
def numOk (s:ByteArray):Bool:=decide (1<=(bs s).length)&&(decide ((bs s).length<=3)&&((bs s).all digB&&!(decide (1<(bs s).length)&&decide ((bs s).getD 0 0=48))))
def numV (s:ByteArray):Int:=valF s (bs s).length
theorem number_sat (s:ByteArray) (h:numOk s=true):SatG Tryz.prog tab 113 [] [S s] [] (.tup [I (numV s),B true]):=by
 have hbl:=bs_len s
 have hbz:=bs_size s
 simp only[numOk,Bool.and_eq_true,decide_eq_true_eq,Bool.not_eq_true',Bool.and_eq_false_iff,decide_eq_false_iff_not] at h
 obtain⟨h1,h2,h3,h4⟩:=h
 have hal:=rall_sat s (by omega)
 rw[h3] at hal
 have hd:∀j,j<(bs s).length->digB ((bs s).getD j 0)=true:=fun j hj=>List.all_eq_true.1 h3 _ (mem_getD hj)
 have hv:=rvalue_sat s h2 hd
 have hg:=bs_getD s 0
 have d1:decide (((bs s).length:Int)<1)=false:=decide_eq_false (by omega)
 have d2:decide (3<((bs s).length:Int))=false:=decide_eq_false (by omega)
 have hN:numV s=valF s (bs s).length:=rfl
 rw[hN]
 generalize valF s (bs s).length=v at*
 refine uFN Tryz.func113 Tryz.ntmps113 ?_;intro w e X hC
 repeat refine uA ?_
 by_cases c1:1<(bs s).length
 ·have d3:decide (1<((bs s).length:Int))=true:=decide_eq_true (by omega)
  have d4:decide ((((bs s).getD 0 0:Nat):Int)=48)=false:=decide_eq_false (by have:=h4.resolve_left (fun h=>h c1);omega)
  (repeat first|refine awp_seq ?_|refine awp_skip ?_|refine awp_block ?_);refine awp_region hC rfl fun K hK=>?_;simp only[go_sem,Nat.reduceAdd,Nat.reduceSub,Nat.reduceMul,Nat.reduceLT,Nat.reduceEqDiff,Nat.reduceBEq,Nat.reduceLeDiff,Int.reduceToNat,↓reduceIte,Int.reduceEq,Int.reduceLT,Int.reduceLE,Int.reduceAdd,Int.reduceSub,Int.reduceNeg,reduceCtorEq,<-hbz,d1,d2]
  refine callF uTS (hal) uTS uTS uTS ?_;refine uS ?_
  simp only[go_sem,Nat.reduceAdd,Nat.reduceSub,Nat.reduceMul,Nat.reduceLT,Nat.reduceEqDiff,Nat.reduceBEq,Nat.reduceLeDiff,Int.reduceToNat,↓reduceIte,Int.reduceEq,Int.reduceLT,Int.reduceLE,Int.reduceAdd,Int.reduceSub,Int.reduceNeg,reduceCtorEq,<-hbz,<-hbl,d3,hg,d4,Int.toNat_zero]
  refine uH ?_
  refine hK _ ?_;clear hK K
  refine uF ?_
  refine uR ?_;intro K hK
  refine callF uTS (hv) uTS uTS uTS ?_;refine uS ?_
  refine hK _ ?_;clear hK K
  refine awp_ret ?_;rw[show Tryz.f113.results.toList=[.tmp 2, .tmp 3] from rfl];first|refine uRN ?_|exact uRM
 ·have d3:decide (1<((bs s).length:Int))=false:=decide_eq_false (by omega)
  (repeat first|refine awp_seq ?_|refine awp_skip ?_|refine awp_block ?_);refine awp_region hC rfl fun K hK=>?_;simp only[go_sem,Nat.reduceAdd,Nat.reduceSub,Nat.reduceMul,Nat.reduceLT,Nat.reduceEqDiff,Nat.reduceBEq,Nat.reduceLeDiff,Int.reduceToNat,↓reduceIte,Int.reduceEq,Int.reduceLT,Int.reduceLE,Int.reduceAdd,Int.reduceSub,Int.reduceNeg,reduceCtorEq,<-hbz,d1,d2]
  refine callF uTS (hal) uTS uTS uTS ?_;refine uS ?_
  simp only[go_sem,Nat.reduceAdd,Nat.reduceSub,Nat.reduceMul,Nat.reduceLT,Nat.reduceEqDiff,Nat.reduceBEq,Nat.reduceLeDiff,Int.reduceToNat,↓reduceIte,Int.reduceEq,Int.reduceLT,Int.reduceLE,Int.reduceAdd,Int.reduceSub,Int.reduceNeg,reduceCtorEq,<-hbz,d3]
  refine uH ?_
  refine hK _ ?_;clear hK K
  refine uF ?_
  refine uR ?_;intro K hK
  refine callF uTS (hv) uTS uTS uTS ?_;refine uS ?_
  refine hK _ ?_;clear hK K
  refine awp_ret ?_;rw[show Tryz.f113.results.toList=[.tmp 2, .tmp 3] from rfl];first|refine uRN ?_|exact uRM
open Go.Plant
def atN (kd:Int):Nat:=if isStrip kd=true then 3 else 2
def enN (kd:Int):Nat:=(exitsN kd).toNat
def wantN (kd:Int):Nat:=(if isStrip kd=true then 4 else 3)+if 0<enN kd then 1+enN kd else 0
def eqB (a b:ByteArray):Bool:=decide (a.data.toList=b.data.toList)
def phB:ByteArray:=⟨#[112,104,111,116,111,99,101,108,108]⟩
def scB:ByteArray:=⟨#[115,99,97,110,110,101,114]⟩
def arB:ByteArray:=⟨#[62]⟩
structure RdN (w:List ByteArray) (kd:Int):Prop where
 kr:1<=kd/\kd<=9
 len:w.length=wantN kd
 w0:∀j,1<=j->j<=9->eqB (wordsB.getD j .empty) (w.getD 0 .empty)=decide ((j:Int)=kd)
 ph:eqB (w.getD 0 .empty) phB=false/\eqB (w.getD 0 .empty) scB=false
 nm:nameOk (w.getD 1 .empty)=true/\(bs (w.getD 1 .empty)).length<=1000
 n2:isStrip kd=true->numOk (w.getD 2 .empty)=true
 zn:numOk (w.getD (atN kd) .empty)=true
 ar:0<enN kd->eqB (w.getD (atN kd+1) .empty) arB=true
 ex:∀k,k<enN kd->nameOk (w.getD (atN kd+2+k) .empty)=true/\(bs (w.getD (atN kd+2+k) .empty)).length<=1000
structure Ln where
 nm:ByteArray
 kd:Int
 ln:Int
 zn:Int
 ex:List Int
 dk:Int
 dn:Int
 dw:Int
 names:List ByteArray
 deriving Inhabited
abbrev Ln.av (x:Ln):AV:= .agg [S x.nm,I x.kd,I x.ln,I x.zn,IS x.ex,I x.dk,I x.dn,I x.dw, .sl (strs x.names) false]
def lns (l:List Ln):List AV:=l.map Ln.av
theorem lns_length (l:List Ln):(lns l).length=l.length:=by simp[lns]
theorem lns_getD {l:List Ln} {i:Nat} (h:i<l.length):(lns l).getD i .bad=(l.getD i default).av:=by simp[lns,h]
theorem PE_lns (l:List Ln):PE (lns l)=True:=by
 refine eq_true fun e he c hc=>?_
 simp only[lns,List.mem_map] at he
 obtain⟨x,_,rfl⟩:=he
 simp only[AV.cells,List.mem_cons,List.not_mem_nil,or_false] at hc
 rcases hc with rfl|rfl|rfl|rfl|rfl|rfl|rfl|rfl|rfl<;>first|trivial|rfl
theorem all_lns {l:List Ln}:(∀y∈lns l,y.cells.length=9)=True:=by
 refine eq_true fun e he=>?_
 simp only[lns,List.mem_map] at he
 obtain⟨x,_,rfl⟩:=he
 rfl
theorem lns_snoc {l:List Ln} {nm:ByteArray} {kd:Int} {ln:Int} {zn:Int} {ex:List Int} {dk:Int} {dn:Int} {dw:Int} {names:List ByteArray}:lns l++[.agg [.lit (.string nm), .lit (.int .i64 kd), .lit (.int .i64 ln), .lit (.int .i64 zn), .sl (ints ex) false, .lit (.int .i64 dk), .lit (.int .i64 dn), .lit (.int .i64 dw), .sl (strs names) false]]=lns (l++[⟨nm,kd,ln,zn,ex,dk,dn,dw,names⟩]):=by simp[lns]
theorem lns_set {l:List Ln} {i:Nat} {nm:ByteArray} {kd:Int} {ln:Int} {zn:Int} {ex:List Int} {dk:Int} {dn:Int} {dw:Int} {names:List ByteArray}:(lns l).set i (.agg [.lit (.string nm), .lit (.int .i64 kd), .lit (.int .i64 ln), .lit (.int .i64 zn), .sl (ints ex) false, .lit (.int .i64 dk), .lit (.int .i64 dn), .lit (.int .i64 dw), .sl (strs names) false])=lns (l.set i ⟨nm,kd,ln,zn,ex,dk,dn,dw,names⟩):=by simp[lns,List.map_set]
theorem lns_nil:lns []=[]:=rfl
attribute [go_sem] lns_length PE_lns all_lns lns_snoc lns_set
def rdN (w:List ByteArray) (kd:Int):Ln:=⟨w.getD 1 .empty,kd,if isStrip kd=true then numV (w.getD 2 .empty) else 0,numV (w.getD (atN kd) .empty),[],0,0,0,(w.drop (atN kd+2)).take (enN kd)⟩
theorem glu0:glu tab.gl 0=some [.sl (strs wordsB) false]:=rfl
theorem wordsB_len:wordsB.length=10:=rfl
theorem read_node (s:ByteArray) (ws:List ByteArray) (kd:Int) (hs:s.data.toList.length<=5000) (hw:splitR s 32=ws) (hr:RdN ws kd):SatG Tryz.prog tab 73 [] [S s] [] (.tup [(rdN ws kd).av,B true]):=by
 have hsp:=split_sat s 32 hs
 rw[hw] at hsp
 have hxs:=exits7_sat kd
 have hst:=strip7_sat kd
 have hen:exitsN kd=(enN kd:Int)/\enN kd<=2:=by
  have:exitsN kd=0\/exitsN kd=1\/exitsN kd=2:=by unfold exitsN;split<;>(try split)<;>simp
  unfold enN;omega
 rw[hen.1] at hxs
 obtain⟨⟨hk1,hk9⟩,hlen,hw0,hph,hnm,hn2,hzn,har,hex⟩:=hr
 have hl3:3<=ws.length/\ws.length<=7:=by rw[hlen,wantN];split<;>split<;>omega
 have hi0:0<ws.length:=by omega
 have hi1:1<ws.length:=by omega
 have hi2:2<ws.length:=by omega
 refine uFN Tryz.func73 Tryz.ntmps73 ?_;intro w e X hC
 refine uA ?_
 refine uR ?_;intro K hK
 refine callP uTS (hsp) uTS uTS uTS ?_;refine uS ?_
 refine hK _ ?_;clear hK K
 refine uA ?_
 refine awp_seq ?_
 refine awp_merge (fun q:Nat=>⟨[(2, .ptO 102 1 0 0 0),(4, .sl (strs ws) false),(5, .ptO 105 6 0 0 0)],(105,some (6, .box [S .empty,I 0,I 0,I 0, .sl [] true,I 0,I 0,I 0, .sl [] true]))::(102,some (1, .box [S .empty,I 0,I 0,I 0, .sl [] true,I 0,I 0,I 0, .sl [] true]))::[],q⟩) (fun _=>True) ?_ ?_
 ·repeat refine uA ?_
  refine uW ?_
  refine awp_loopW (fun q:Nat×Nat=>⟨[(2, .ptO 102 1 0 0 0),(4, .sl (strs ws) false),(5, .ptO 105 6 0 0 0),(6,I q.2)],(105,some (6, .box [S .empty,I 0,I 0,I 0, .sl [] true,I 0,I 0,I 0, .sl [] true]))::(102,some (1, .box [S .empty,I 0,I 0,I 0, .sl [] true,I 0,I 0,I 0, .sl [] true]))::[],q.1⟩) (fun q=>1<=q.2/\q.2<=3) (fun q=>3 - q.2) (_,1) ⟨by omega,by omega⟩ (uKF) ?_
  rintro⟨ck,k⟩ ⟨hk,hk3⟩
  simp only at hk hk3
  refine awp_seq ?_
  refine awp_merge (fun q:Nat=>⟨[(2, .ptO 102 1 0 0 0),(4, .sl (strs ws) false),(5, .ptO 105 6 0 0 0),(6,I k)],(105,some (6, .box [S .empty,I 0,I 0,I 0, .sl [] true,I 0,I 0,I 0, .sl [] true]))::(102,some (1, .box [S .empty,I 0,I 0,I 0, .sl [] true,I 0,I 0,I 0, .sl [] true]))::[],q⟩) (fun _=>k<=2/\ws.length=3) ?_ ?_
  ·by_cases c1:k<=2
   ·have d1:decide ((k:Int)<=2)=true:=decide_eq_true (by omega)
    by_cases c2:ws.length=3
    ·have d2:decide ((ws.length:Int)=3)=true:=decide_eq_true (by omega)
     refine uR1 (uI @d1 @d2) ?_;intro K hK
     refine hK _ ?_;clear hK K
     refine uT ?_
     refine uW ?_
     refine⟨_,⟨c1,c2⟩,uKF⟩
    ·have d2:decide ((ws.length:Int)=3)=false:=decide_eq_false (by omega)
     refine uR1 (uI @d1 @d2) ?_;intro K hK
     refine hK _ ?_;clear hK K
     refine uF ?_
     refine awp_exit ?_
     refine⟨_,trivial,uKF⟩
   ·have d1:decide ((k:Int)<=2)=false:=decide_eq_false (by omega)
    refine uR1 @d1 ?_;intro K hK
    refine hK _ ?_;clear hK K
    refine uF ?_
    refine awp_exit ?_
    refine⟨_,trivial,uKF⟩
  rintro ck1 ⟨hk2,hl3'⟩
  have hnum:numOk (ws.getD 2 .empty)=true:=by
   have:isStrip kd=false/\enN kd=0:=by
    rw[hlen,wantN] at hl3'
    cases h:isStrip kd with
    |true=>rw[h,if_pos rfl] at hl3';omega
    |false=>rw[h] at hl3';refine⟨rfl,?_⟩;simp only[Bool.false_eq_true,if_false] at hl3';split at hl3'<;>omega
   rw[atN,this.1] at hzn
   simpa using hzn
  have hns:=number_sat _ hnum
  refine uR1 (strs_getD hi2) ?_;intro K hK
  refine⟨by omega,?_⟩
  refine callF uTS (hns) uTS uTS uTS ?_;refine uS ?_
  refine uH ?_
  refine hK _ ?_;clear hK K
  have hk12:k=1\/k=2:=by omega
  have hq1:decide ((ws.getD 0 .empty).data.toList=[112,104,111,116,111,99,101,108,108])=false:=hph.1
  have hq2:decide ((ws.getD 0 .empty).data.toList=[115,99,97,110,110,101,114])=false:=hph.2
  rcases hk12 with rfl|rfl
  ·refine uD1 (uI (strs_getD hi0) (uI @Int.toNat_zero @hq1)) ?_;intro K hK
   refine⟨by omega,by omega,?_⟩
   refine uH ?_
   refine hK _ ?_;clear hK K
   refine uF ?_
   repeat refine uA ?_
   refine⟨(_,2),⟨by omega,by omega⟩,by simp only;omega,uKF⟩
  ·refine uD1 (uI (strs_getD hi0) (uI @Int.toNat_zero @hq2)) ?_;intro K hK
   refine⟨by omega,by omega,?_⟩
   refine uH ?_
   refine hK _ ?_;clear hK K
   refine uF ?_
   repeat refine uA ?_
   refine⟨(_,3),⟨by omega,by omega⟩,by simp only;omega,uKF⟩
 ·rintro ck1 -
  refine uA ?_
  refine uW ?_
  refine awp_loopW (fun q:Nat×Nat=>⟨[(2, .ptO 102 1 0 0 0),(4, .sl (strs ws) false),(5, .ptO 105 6 0 0 0),(9,I q.2)],(105,some (6, .box [S .empty,I (if kd<q.2 then kd else 0),I 0,I 0, .sl [] true,I 0,I 0,I 0, .sl [] true]))::(102,some (1, .box [S .empty,I 0,I 0,I 0, .sl [] true,I 0,I 0,I 0, .sl [] true]))::[],q.1⟩) (fun q=>1<=q.2/\q.2<=10) (fun q=>10 - q.2) (_,1) ⟨by omega,by omega⟩ (.of (Nat.le_refl _) (by repeat first|exact HOk.nil|refine uHN ?_|(refine HOk.cons ?_ ?_;(focus (simp only[go_sem,Nat.reduceAdd,Nat.reduceSub,Nat.reduceMul,Nat.reduceLT,Nat.reduceEqDiff,Nat.reduceBEq,Nat.reduceLeDiff,Int.reduceToNat,↓reduceIte,Int.reduceEq,Int.reduceLT,Int.reduceLE,Int.reduceAdd,Int.reduceSub,Int.reduceNeg,reduceCtorEq,if_neg (show ¬kd<(1:Nat) by omega)];done)))) (by repeat first|exact WOk.nil|refine uWN ?_|(refine WOk.cons ?_ ?_;(focus (simp only[go_sem,Nat.reduceAdd,Nat.reduceSub,Nat.reduceMul,Nat.reduceLT,Nat.reduceEqDiff,Nat.reduceBEq,Nat.reduceLeDiff,Int.reduceToNat,↓reduceIte,Int.reduceEq,Int.reduceLT,Int.reduceLE,Int.reduceAdd,Int.reduceSub,Int.reduceNeg,reduceCtorEq];done))))) ?_
  rintro⟨ck2,k⟩ ⟨hk,hk10⟩
  simp only at hk hk10
  repeat refine uA ?_
  refine uW ?_;refine condP _ rfl (fun h=>?_) (fun h=>?_)
  ·have hkl:k<wordsB.length:=by rw[wordsB_len];omega
   have hwk:decide ((wordsB.getD k .empty).data.toList=(ws.getD 0 .empty).data.toList)=decide ((k:Int)=kd):=hw0 k hk (by omega)
   by_cases c1:(k:Int)=kd
   ·have d1:decide ((k:Int)=kd)=true:=decide_eq_true c1
    have hif:(if kd<((k+1:Nat):Int) then kd else 0)=kd:=if_pos (by omega)
    have hif2:(if kd<(k:Int)+1 then kd else 0)=kd:=if_pos (by omega)
    refine uE1 (uI @glu0 (uI (strs_getD hkl) (uI (strs_getD hi0) (uI @Int.toNat_zero (uI @hwk @d1))))) ?_;intro K hK
    refine⟨by rw[wordsB_len];omega,by omega,?_⟩
    refine hK _ ?_;clear hK K
    refine uT ?_
    repeat refine uA ?_
    refine⟨(_,k+1),⟨by simp only;omega,by simp only;omega⟩,by simp only;omega, .of (Nat.le_refl _) (uHF1 (uI @hif (uI @hif2 @c1))) uWF⟩
   ·have d1:decide ((k:Int)=kd)=false:=decide_eq_false c1
    have hif:(if kd<((k+1:Nat):Int) then kd else 0)=if kd<(k:Int) then kd else 0:=by
     by_cases h:kd<(k:Int)
     ·rw[if_pos h,if_pos (by omega)]
     ·rw[if_neg h,if_neg (by omega)]
    refine uE1 (uI @glu0 (uI (strs_getD hkl) (uI (strs_getD hi0) (uI @Int.toNat_zero (uI @hwk @d1))))) ?_;intro K hK
    refine⟨by rw[wordsB_len];omega,by omega,?_⟩
    refine hK _ ?_;clear hK K
    refine uF ?_
    repeat refine uA ?_
    refine⟨(_,k+1),⟨by simp only;omega,by simp only;omega⟩,by simp only;omega, .of (Nat.le_refl _) (uHF1 @hif) uWF⟩
  refine awp_exit ?_
  rw[if_pos (by omega)]
  obtain rfl:k=10:=by omega
  obtain⟨hene,hen2⟩:=hen
  obtain⟨at',hat⟩:∃a,a=atN kd:=⟨_,rfl⟩
  rw[<-hat] at hzn har hex
  have hwant:=hlen
  unfold wantN at hwant
  have hRD:rdN ws kd=_:=rdN.eq_1 ws kd
  rw[<-hat] at hRD
  generalize rdN ws kd=rr at*
  have hen0:0<=(enN kd:Int):=by omega
  generalize enN kd=en at*
  have hatv:at'=if isStrip kd=true then 3 else 2:=hat
  have hat4:(if isStrip kd=true then 4 else 3)=at'+1:=by rw[hatv];split<;>rfl
  have hla:at'<ws.length:=by rw[hwant,hat4];omega
  have hla1:0<en->at'+1<ws.length:=fun h=>by rw[hwant,hat4,if_pos h];omega
  have hla2:∀k,k<en->at'+2+k<ws.length:=fun k hk=>by rw[hwant,hat4,if_pos (by omega)];omega
  clear hat4
  generalize isStrip kd=st at*
  refine uR ?_;intro K hK
  refine callF uTS (hxs) uTS uTS uTS ?_;refine uS ?_
  refine hK _ ?_;clear hK K
  refine uA ?_
  refine awp_seq ?_
  refine awp_merge (fun q:Nat=>⟨[(2, .ptO 102 1 0 0 0),(4, .sl (strs ws) false),(5, .ptO 105 6 0 0 0),(10,I en),(11,I 2),(12,I (if st=true then 4 else 3))],(105,some (6, .box [S .empty,I kd,I 0,I 0, .sl [] true,I 0,I 0,I 0, .sl [] true]))::(102,some (1, .box [S .empty,I 0,I 0,I 0, .sl [] true,I 0,I 0,I 0, .sl [] true]))::[],q⟩) (fun _=>True) ?_ ?_
  ·cases st with
   |true=>
    refine uR ?_;intro K hK
    refine callF uTS (hst) uTS uTS uTS ?_;refine uS ?_
    refine hK _ ?_;clear hK K
    refine uT ?_
    repeat refine uA ?_
    refine⟨_,trivial,uKF⟩
   |false=>
    refine uR ?_;intro K hK
    refine callF uTS (hst) uTS uTS uTS ?_;refine uS ?_
    refine hK _ ?_;clear hK K
    refine uF ?_
    refine uW ?_
    refine⟨_,trivial,uKF⟩
  rintro ck3 -
  refine awp_seq ?_
  refine awp_merge (fun q:Nat=>⟨[(2, .ptO 102 1 0 0 0),(4, .sl (strs ws) false),(5, .ptO 105 6 0 0 0),(10,I en),(11,I 2),(12,I ws.length)],(105,some (6, .box [S .empty,I kd,I 0,I 0, .sl [] true,I 0,I 0,I 0, .sl [] true]))::(102,some (1, .box [S .empty,I 0,I 0,I 0, .sl [] true,I 0,I 0,I 0, .sl [] true]))::[],q⟩) (fun _=>True) ?_ ?_
  ·by_cases c1:0<en
   ·have d1:decide (0<(en:Int))=true:=decide_eq_true (by omega)
    rw[if_pos c1] at hwant
    have hv:(if st=true then(4:Int) else 3)+(1+(en:Int))=ws.length:=by rw[hwant];cases st<;>simp<;>omega
    have hvb:3<=(if st=true then(4:Int) else 3)/\(if st=true then(4:Int) else 3)<=4:=by cases st<;>simp
    generalize (if st=true then(4:Int) else 3)=v4 at*
    repeat first|refine uC ?_|refine uA1 @d1 ?_
    refine⟨_,trivial, .of (Nat.le_refl _) uHF (uWF1 @hv)⟩
   ·have d1:decide (0<(en:Int))=false:=decide_eq_false (by omega)
    rw[if_neg c1] at hwant
    have hv:(if st=true then(4:Int) else 3)=ws.length:=by rw[hwant];cases st<;>simp
    repeat first|refine uC ?_|refine uA1 @d1 ?_
    refine uW ?_
    refine⟨_,trivial, .of (Nat.le_refl _) uHF (uWF1 @hv)⟩
  rintro ck4 -
  have dk0:decide (kd=0)=false:=decide_eq_false (by omega)
  have dwl:decide (¬(ws.length:Int)=ws.length)=false:=decide_eq_false (fun h=>h rfl)
  have hnms:=name4_sat _ hnm.2
  rw[hnm.1] at hnms
  have hl0:=hla
  refine uR1 (uI @dk0 (uI @dwl (uI (strs_getD hi1) @Int.toNat_one))) ?_;intro K hK
  refine⟨by omega,?_⟩
  refine callF uTS (hnms) uTS uTS uTS ?_;refine uS ?_
  refine uH ?_
  refine hK _ ?_;clear hK K
  refine uF ?_
  repeat refine uA1 (uI (strs_getD hi1) @Int.toNat_one) ?_
  refine awp_seq ?_
  refine awp_merge (fun q:Nat=>⟨[(2, .ptO 102 1 0 0 0),(4, .sl (strs ws) false),(5, .ptO 105 6 0 0 0),(10,I en),(11,I at'),(13,B true)],(105,some (6, .box [S (ws.getD 1 .empty),I kd,I (if st=true then numV (ws.getD 2 .empty) else 0),I 0, .sl [] true,I 0,I 0,I 0, .sl [] true]))::(102,some (1, .box [S .empty,I 0,I 0,I 0, .sl [] true,I 0,I 0,I 0, .sl [] true]))::[],q⟩) (fun _=>True) ?_ ?_
  ·cases st with
   |true=>
    have hn2s:=number_sat _ (hn2 rfl)
    rw[if_pos rfl] at hatv
    subst hatv
    refine uR ?_;intro K hK
    refine callF uTS (hst) uTS uTS uTS ?_;refine uS ?_
    refine hK _ ?_;clear hK K
    refine uT ?_
    refine uR1 (strs_getD hi2) ?_;intro K hK
    refine⟨by omega,?_⟩
    refine callF uTS (hn2s) uTS uTS uTS ?_;refine uS ?_
    refine uH ?_
    refine hK _ ?_;clear hK K
    repeat refine uA ?_
    refine⟨_,trivial,uKF⟩
   |false=>
    rw[if_neg (by decide)] at hatv
    subst hatv
    refine uR ?_;intro K hK
    refine callF uTS (hst) uTS uTS uTS ?_;refine uS ?_
    refine hK _ ?_;clear hK K
    refine uF ?_
    refine uW ?_
    refine⟨_,trivial,uKF⟩
  rintro ck5 -
  have hzs:=number_sat _ hzn
  refine uR1 (strs_getD hla) ?_;intro K hK
  refine⟨by omega,?_⟩
  refine callF uTS (hzs) uTS uTS uTS ?_;refine uS ?_
  refine uH ?_
  refine hK _ ?_;clear hK K
  generalize (if st=true then numV (ws.getD 2 .empty) else 0)=vln at*
  generalize numV (ws.getD at' .empty)=vzn at*
  refine uA ?_
  refine awp_seq ?_
  refine awp_merge (fun q:Nat=>⟨[(2, .ptO 102 1 0 0 0),(4, .sl (strs ws) false),(5, .ptO 105 6 0 0 0),(10,I en),(11,I at')],(105,some (6, .box [S (ws.getD 1 .empty),I kd,I vln,I vzn, .sl [] true,I 0,I 0,I 0, .sl [] true]))::(102,some (1, .box [S .empty,I 0,I 0,I 0, .sl [] true,I 0,I 0,I 0, .sl [] true]))::[],q⟩) (fun _=>True) ?_ ?_
  ·by_cases c1:0<en
   ·have d1:decide (0<(en:Int))=true:=decide_eq_true (by omega)
    have hl1:=hla1 c1
    have hkt:((at':Int)+1).toNat=at'+1:=by omega
    have hat1:decide (¬(ws.getD (at'+1) .empty).data.toList=[62])=false:=by
     have h1:(ws.getD (at'+1) .empty).data.toList=[62]:=of_decide_eq_true (har c1)
     exact decide_eq_false (fun h=>h h1)
    refine uR1 (uI @d1 (uI @hkt (uI (strs_getD hl1) @hat1))) ?_;intro K hK
    refine uH ?_
    refine hK _ ?_;clear hK K
    refine uF ?_
    refine uW ?_
    refine⟨_,trivial,uKF⟩
   ·have d1:decide (0<(en:Int))=false:=decide_eq_false (by omega)
    refine uR1 @d1 ?_;intro K hK
    refine hK _ ?_;clear hK K
    refine uF ?_
    refine uW ?_
    refine⟨_,trivial,uKF⟩
  rintro ck6 -
  repeat refine uA ?_
  refine uW ?_
  refine awp_loopW (fun q:Nat×Nat×Nat=>⟨[(2, .ptO 102 1 0 0 0),(4, .sl (strs ws) false),(5, .ptO 105 6 0 0 0),(10,I en),(11,I at'),(16,I q.2.1)],(105,some (6, .box [S (ws.getD 1 .empty),I kd,I vln,I vzn, .sl [] true,I 0,I 0,I 0,nilC q.2.1 (.slO 280 q.2.2 0 q.2.1)]))::(280,nilH q.2.1 (q.2.2, .own 9 1 (strs ((ws.drop (at'+2)).take q.2.1))))::(102,some (1, .box [S .empty,I 0,I 0,I 0, .sl [] true,I 0,I 0,I 0, .sl [] true]))::[],q.1⟩)
   (fun q=>q.2.1<=en) (fun q=>en - q.2.1) (_,0,0) (Nat.zero_le _) (uKF) ?_
  rintro⟨ck7,k,g⟩ hk
  simp only at hk
  repeat refine uA ?_
  refine uW ?_;refine condP _ rfl (fun h7=>?_) (fun h7=>?_)
  ·have hlt:k<en:=by omega
   have hlk:=hla2 k hlt
   have hxk:=hex k hlt
   have hxs2:=name4_sat _ hxk.2
   rw[hxk.1] at hxs2
   have hkt:((at':Int)+2+(k:Int)).toNat=at'+2+k:=by omega
   have hsn:(ws.drop (at'+2)).take (k+1)=(ws.drop (at'+2)).take k++[ws.getD (at'+2+k) .empty]:=by
    rw[take_getD (d:= .empty) (by rw[List.length_drop];omega)]
    congr 2
    simp[List.getD_eq_getElem?_getD]
   have htl:((ws.drop (at'+2)).take k).length=k:=by rw[List.length_take,List.length_drop];omega
   generalize (ws.drop (at'+2)).take k=o at*
   refine uR1 (uI @hkt (strs_getD hlk)) ?_;intro K hK
   refine uH ?_
   refine callF uTS (hxs2) uTS uTS uTS ?_;refine uS ?_
   refine uH ?_
   refine hK _ ?_;clear hK K
   refine uF ?_
   by_cases hi0':k=0
   ·subst hi0'
    obtain rfl:o=[]:=List.length_eq_zero_iff.1 htl
    simp only[nilC_z,nilH_z]
    refine uD1 (uI @hkt (strs_getD hlk)) ?_;intro K hK
    refine uH ?_
    refine hK _ ?_;clear hK K
    repeat refine uA ?_
    refine⟨(_,0+1,ck7+22),by simp only;omega,by simp only;omega, .of (Nat.le_refl _) (by repeat first|exact HOk.nil|refine uHN ?_|(refine HOk.cons ?_ ?_;(focus (simp only[go_sem,Nat.reduceAdd,Nat.reduceSub,Nat.reduceMul,Nat.reduceLT,Nat.reduceEqDiff,Nat.reduceBEq,Nat.reduceLeDiff,Int.reduceToNat,↓reduceIte,Int.reduceEq,Int.reduceLT,Int.reduceLE,Int.reduceAdd,Int.reduceSub,Int.reduceNeg,reduceCtorEq,hsn,List.nil_append,Nat.add_zero,strs,List.map_cons,List.map_nil,nilC_s,nilH_s];done)))) (by repeat first|exact WOk.nil|refine uWN ?_|(refine WOk.cons ?_ ?_;(focus (simp only[go_sem,Nat.reduceAdd,Nat.reduceSub,Nat.reduceMul,Nat.reduceLT,Nat.reduceEqDiff,Nat.reduceBEq,Nat.reduceLeDiff,Int.reduceToNat,↓reduceIte,Int.reduceEq,Int.reduceLT,Int.reduceLE,Int.reduceAdd,Int.reduceSub,Int.reduceNeg,reduceCtorEq];done))))⟩
   ·simp only[nilC_p hi0',nilH_p hi0']
    refine uD1 (uI @hkt (uI (strs_getD hlk) @htl)) ?_;intro K hK
    refine uH ?_
    refine hK _ ?_;clear hK K
    repeat refine uA ?_
    refine⟨(_,k+1,g),by simp only;omega,by simp only;omega, .of (Nat.le_refl _) (uHF1 (uI @hsn (uI @nilC_s @nilH_s))) uWF⟩
  ·refine awp_exit ?_
   obtain rfl:k=en:=by omega
   subst hRD
   by_cases hi0':k=0
   ·subst hi0'
    simp only[nilC_z,nilH_z]
    repeat refine uA ?_
    refine awp_ret ?_;rw[show Tryz.f73.results.toList=[.cell 2 106, .tmp 3] from rfl];first|refine uRN ?_|exact uRM
    rfl
   ·simp only[nilC_p hi0',nilH_p hi0']
    repeat refine uA ?_
    have htl:((ws.drop (at'+2)).take k).length=k:=by rw[List.length_take,List.length_drop];have:=hla2 (k - 1) (by omega);omega
    refine awp_ret ?_;rw[show Tryz.f73.results.toList=[.cell 2 106, .tmp 3] from rfl];first|refine uRN1 @htl ?_|exact uRM1 @htl
    rfl
open Go.Plant
def rdS (ws:List ByteArray):Ln:=⟨.empty,0,0,0,[],2,0,numV (ws.getD 2 .empty),[ws.getD 1 .empty]⟩
theorem read_scan (s:ByteArray) (ws:List ByteArray) (hs:s.data.toList.length<=5000) (hw:splitR s 32=ws) (hl:ws.length=3) (h0:eqB (ws.getD 0 .empty) phB=false/\eqB (ws.getD 0 .empty) scB=true)
  (hnm:nameOk (ws.getD 1 .empty)=true/\(bs (ws.getD 1 .empty)).length<=1000) (hn:numOk (ws.getD 2 .empty)=true):SatG Tryz.prog tab 73 [] [S s] [] (.tup [(rdS ws).av,B true]):=by
 have hsp:=split_sat s 32 hs
 rw[hw] at hsp
 have hns:=number_sat _ hn
 have hnms:=name4_sat _ hnm.2
 rw[hnm.1] at hnms
 have hi0:0<ws.length:=by omega
 have hi1:1<ws.length:=by omega
 have hi2:2<ws.length:=by omega
 have hq1:decide ((ws.getD 0 .empty).data.toList=[112,104,111,116,111,99,101,108,108])=false:=h0.1
 have hq2:decide ((ws.getD 0 .empty).data.toList=[115,99,97,110,110,101,114])=true:=h0.2
 have hRD:rdS ws=_:=rdS.eq_1 ws
 have htd:List.take 1 (List.drop 1 ws)=[ws.getD 1 .empty]:=by
  match ws,hl with
  |[a,b,c],_=>rfl
 have htd2:List.drop 1 (List.take 2 ws)=[ws.getD 1 .empty]:=by
  match ws,hl with
  |[a,b,c],_=>rfl
 generalize rdS ws=rr at*
 generalize numV (ws.getD 2 .empty)=nv at*
 have d3:decide ((ws.length:Int)=3)=true:=decide_eq_true (by omega)
 refine uFN Tryz.func73 Tryz.ntmps73 ?_;intro w e X hC
 refine uA ?_
 refine uR ?_;intro K hK
 refine callP uTS (hsp) uTS uTS uTS ?_;refine uS ?_
 refine hK _ ?_;clear hK K
 refine uA ?_
 repeat refine uA ?_
 refine uW ?_
 refine awp_loopW (fun q:Nat×Nat=>⟨[(2, .ptO 102 1 0 0 0),(4, .sl (strs ws) false),(5, .ptO 105 6 0 0 0),(6,I q.2)],(105,some (6, .box [S .empty,I 0,I 0,I 0, .sl [] true,I 0,I 0,I 0, .sl [] true]))::(102,some (1, .box [S .empty,I 0,I 0,I 0, .sl [] true,I 0,I 0,I 0, .sl [] true]))::[],q.1⟩) (fun q=>1<=q.2/\q.2<=2) (fun q=>3 - q.2) (_,1) ⟨by omega,by omega⟩ (uKF) ?_
 rintro⟨ck,k⟩ ⟨hk,hk3⟩
 simp only at hk hk3
 have d1:decide ((k:Int)<=2)=true:=decide_eq_true (by omega)
 refine uR1 (uI @d1 @d3) ?_;intro K hK
 refine hK _ ?_;clear hK K
 refine uT ?_
 refine uR1 (strs_getD hi2) ?_;intro K hK
 refine⟨by omega,?_⟩
 refine callF uTS (hns) uTS uTS uTS ?_;refine uS ?_
 refine uH ?_
 refine hK _ ?_;clear hK K
 have hk12:k=1\/k=2:=by omega
 rcases hk12 with rfl|rfl
 ·refine uD1 (uI (strs_getD hi0) (uI @Int.toNat_zero @hq1)) ?_;intro K hK
  refine⟨by omega,by omega,?_⟩
  refine uH ?_
  refine hK _ ?_;clear hK K
  refine uF ?_
  repeat refine uA ?_
  refine⟨(_,2),⟨by omega,by omega⟩,by simp only;omega,uKF⟩
 ·refine uD1 (uI (strs_getD hi0) (uI (strs_getD hi1) (uI @Int.toNat_zero (uI @Int.toNat_one @hq2)))) ?_;intro K hK
  refine⟨by omega,by omega,by omega,?_⟩
  refine callF uTS (hnms) uTS uTS uTS ?_;refine uS ?_
  refine uH ?_
  refine hK _ ?_;clear hK K
  refine uT ?_
  refine uD1 (uI @strs_drop (uI @strs_take (uI @htd @htd2))) ?_;intro K hK
  refine uH ?_
  refine hK _ ?_;clear hK K
  subst hRD
  repeat refine uA ?_
  refine awp_ret ?_;rw[show Tryz.f73.results.toList=[.cell 2 106, .tmp 3] from rfl];first|refine uRN ?_|exact uRM
  rfl
open Go.Plant
def ndOf (x:Ln):Nd:=⟨x.nm,x.kd,x.ln,x.zn,x.ex⟩
def dvOf (x:Ln):T3:=⟨x.dk,x.dn,x.dw⟩
theorem nds_one {nm:ByteArray} {kd ln zn:Int} {ex:List Int}:[AV.agg [.lit (.string nm), .lit (.int .i64 kd), .lit (.int .i64 ln), .lit (.int .i64 zn), .sl (ints ex) false]]=nds [⟨nm,kd,ln,zn,ex⟩]:=rfl
theorem t3s_one {a b c:Int}:[AV.agg [.lit (.int .i64 a), .lit (.int .i64 b), .lit (.int .i64 c)]]=t3s [⟨a,b,c⟩]:=rfl
def fnd (ls:List Ln) (m:Nat) (nm:ByteArray):Int:=findN ((ls.take m).map ndOf) nm
def exN (ls:List Ln) (m:Nat) (x:Ln) (c:Nat):Nd×Bool:=if c=0 then(ndOf x,false) else(⟨x.nm,x.kd,x.ln,x.zn,x.ex++(x.names.take c).map (fnd ls m)⟩,true)
def cnJ (ls:List Ln) (i k j:Nat):Nat:=if j<i then(ls.getD j default).names.length else if j=i then k else 0
def mixS (ls:List Ln) (m i k:Nat):List (Nd×Bool):=(List.range m).map fun j=>exN ls m (ls.getD j default) (cnJ ls i k j)
theorem mixS_len (ls:List Ln) (m i k:Nat):(mixS ls m i k).length=m:=by simp[mixS]
theorem mixS_getD {ls:List Ln} {m i k j:Nat} (h:j<m):(mixS ls m i k).getD j default=exN ls m (ls.getD j default) (cnJ ls i k j):=by simp[mixS,h]
theorem mixes_getD {l:List (Nd×Bool)} {i:Nat} (h:i<l.length):(mixes l).getD i .bad=mixN (l.getD i default):=by simp[mixes,h]
theorem exN_nm (ls:List Ln) (m:Nat) (x:Ln) (c:Nat):(exN ls m x c).1.nm=x.nm:=by unfold exN;split<;>rfl
theorem findN_map (xs:List Nd) (nm:ByteArray):findN xs nm=match (xs.map (·.nm)).findIdx? (fun z=>decide (z=nm)) with|some i=>i|none=>-1:=by
 rw[findN,List.findIdx?_map];rfl
theorem mixS_fnd {ls:List Ln} {m i k:Nat} (hm:m<=ls.length) (nm:ByteArray):findN ((mixS ls m i k).map (·.1)) nm=fnd ls m nm:=by
 rw[fnd,findN_map,findN_map]
 have:((mixS ls m i k).map (·.1)).map (·.nm)=((ls.take m).map ndOf).map (·.nm):=by
  apply List.ext_getElem
  ·simp[mixS_len];omega
  ·intro j h1 h2
   simp only[List.length_map,mixS_len] at h1
   simp only[List.getElem_map,List.getElem_take,mixS,List.getElem_range,exN_nm]
   simp[show j<ls.length by omega,ndOf]
 rw[this]
theorem mixS_next (ls:List Ln) (m i:Nat):mixS ls m i (ls.getD i default).names.length=mixS ls m (i+1) 0:=by
 unfold mixS
 refine List.map_congr_left fun j _=>?_
 congr 1
 unfold cnJ
 by_cases h1:j<i
 ·rw[if_pos h1,if_pos (by omega)]
 ·rw[if_neg h1]
  by_cases h2:j=i
  ·subst h2;rw[if_pos rfl,if_pos (by omega)]
  ·rw[if_neg h2,if_neg (by omega)];split<;>rfl
theorem mixS_ge {ls:List Ln} {m i k k':Nat} (h:m<=i):mixS ls m i k=mixS ls m i k':=by
 unfold mixS
 refine List.map_congr_left fun j hj=>?_
 have:=List.mem_range.1 hj
 rw[cnJ,cnJ,if_pos (by omega),if_pos (by omega)]
theorem mixS_set {ls:List Ln} {m i k:Nat} (hi:i<m):(mixS ls m i k).set i (exN ls m (ls.getD i default) (k+1))=mixS ls m i (k+1):=by
 apply List.ext_getElem
 ·simp[mixS_len]
 ·intro j h1 h2
  simp only[List.length_set,mixS_len] at h1
  rw[List.getElem_set]
  by_cases hji:i=j
  ·subst hji
   simp[mixS,cnJ]
  ·rw[if_neg hji]
   simp[mixS,cnJ,show ¬j=i from fun h=>hji h.symm]
def dvS (ls:List Ln) (m d:Nat):List T3:=(List.range (ls.length - m)).map fun j=>if j<d then⟨(ls.getD (m+j) default).dk,fnd ls m ((ls.getD (m+j) default).names.getD 0 .empty),(ls.getD (m+j) default).dw⟩ else dvOf (ls.getD (m+j) default)
theorem dvS_len (ls:List Ln) (m d:Nat):(dvS ls m d).length=ls.length - m:=by simp[dvS]
theorem dvS_getD {ls:List Ln} {m d j:Nat} (h:j<ls.length - m):(dvS ls m d).getD j default=if j<d then⟨(ls.getD (m+j) default).dk,fnd ls m ((ls.getD (m+j) default).names.getD 0 .empty),(ls.getD (m+j) default).dw⟩ else dvOf (ls.getD (m+j) default):=by simp only[dvS,List.getD_eq_getElem?_getD,List.getElem?_map,List.getElem?_range h,Option.map_some,Option.getD_some]
theorem dvS_set {ls:List Ln} {m d:Nat} (h:d<ls.length - m):(dvS ls m d).set d ⟨(ls.getD (m+d) default).dk,fnd ls m ((ls.getD (m+d) default).names.getD 0 .empty),(ls.getD (m+d) default).dw⟩=dvS ls m (d+1):=by
 apply List.ext_getElem
 ·simp[dvS_len]
 ·intro j h1 h2
  simp only[List.length_set,dvS_len] at h1
  rw[List.getElem_set]
  by_cases hjd:d=j
  ·subst hjd
   simp[dvS]
  ·rw[if_neg hjd]
   by_cases hlt:j<d
   ·simp[dvS,hlt,show j<d+1 by omega]
   ·simp[dvS,hlt,show ¬j<d+1 by omega]
def cD (m i k:Nat):Nat:=if i<m then 0 else i - m+k
theorem cD_next {m i k:Nat} (h:m<=i->k=1):cD m i k=cD m (i+1) 0:=by
 unfold cD
 by_cases h1:i<m
 ·rw[if_pos h1];split<;>omega
 ·have:=h (by omega);rw[if_neg h1,if_neg (by omega)];omega
def prsY (ls:List Ln) (m:Nat):Ly:=⟨(mixS ls m m 0).map (·.1),dvS ls m (ls.length - m)⟩
theorem dvS_zero {ls:List Ln} {m:Nat}:dvS ls m 0=(ls.drop m).map dvOf:=by
 apply List.ext_getElem
 ·simp[dvS]
 ·intro j h1 h2
  simp only[dvS_len] at h1
  simp[dvS,show m+j<ls.length by omega]
structure Prs (s:ByteArray) (T:List ByteArray) (ls:List Ln) (m:Nat):Prop where
 len:s.data.toList.length<=4096
 sp:splitR s 10=T++[.empty]
 tl:T.length=ls.length
 ll:ls.length<=100
 ml:m<=ls.length
 m0:0<m
 nd:∀i,i<m->(ls.getD i default).kd≠0
 dv:∀i,m<=i->i<ls.length->(ls.getD i default).kd=0
 fn:∀i,i<ls.length->∀k,k<(ls.getD i default).names.length->0<=fnd ls m ((ls.getD i default).names.getD k .empty)
 x0:∀i,i<ls.length->(ls.getD i default).ex=[]
 d1:∀i,m<=i->i<ls.length->(ls.getD i default).names.length=1
 nl:∀i,i<ls.length->(ls.getD i default).names.length<=100
 rd:∀i,i<ls.length->SatG Tryz.prog tab 73 [] [S (T.getD i .empty)] [] (.tup [(ls.getD i default).av,B true])
theorem parse_sat (s:ByteArray) (T:List ByteArray) (ls:List Ln) (m:Nat) (h:Prs s T ls m) (hs7:Sml7 (prsY ls m)) (hval:validE (prsY ls m)=0):SatG Tryz.prog tab 40 [] [S s] [] (.tup [(prsY ls m).av,I 0,I 0]):=by
 obtain⟨hlen,hsp,htl,hll,hml,hm0,hnd,hdv,hfn,hx0,hd1,hnl,hrd⟩:=h
 have hsz:s.size=s.data.toList.length:=by rw[<-bs_size,bs_len]
 have hspl:=split_sat s 10 (by omega)
 rw[hsp] at hspl
 have hTl:(T++[ByteArray.empty]).length=ls.length+1:=by rw[List.length_append,htl];rfl
 have hTg:(T++[ByteArray.empty]).getD ls.length .empty= .empty:=by rw[getD_snoc,htl];simp
 have hTt:(T++[ByteArray.empty]).take ls.length=T:=by rw[<-htl,List.take_left]
 have hll1:ls.length<(T++[ByteArray.empty]).length:=by omega
 have hkt:((ls.length:Int)+1 - 1).toNat=ls.length:=by omega
 have hkt2:((ls.length:Int)+1 - 1)=ls.length:=by omega
 refine uFN Tryz.func40 Tryz.ntmps40 ?_;intro w e X hC
 repeat refine uA1 @hsz ?_
 refine uW ?_;refine condP _ rfl (fun c0=>?_) (fun c0=>?_)
 ·omega
 refine uR ?_;intro K hK
 refine callP uTS (hspl) uTS uTS uTS ?_;refine uS ?_
 refine hK _ ?_;clear hK K
 repeat refine uA1 (uI @hTl (uI @Int.natCast_add (uI @hkt2 (uI @Int.natCast_one (uI (strs_getD hll1) (uI @hTg (uI @strs_take @hTt))))))) ?_
 refine uW ?_
 refine awp_loopW (fun q:Nat×Nat×Nat×Nat×Nat×Nat×Nat=>⟨[(2, .ptO 102 1 0 0 0),(5, .sl (strs T) false),(6,S .empty),(7, .slO 107 q.2.2.1 0 q.2.1),(8, .ptO 108 24 0 0 0),(9,I q.2.1)],
  (108,some (24, .box [nilC q.2.2.2.2.2.1 (.slO 177 q.2.2.2.1 0 q.2.2.2.2.2.1),nilC q.2.2.2.2.2.2 (.slO 184 q.2.2.2.2.1 0 q.2.2.2.2.2.2)]))::(177,nilH q.2.2.2.2.2.1 (q.2.2.2.1, .own 49 5 (nds ((ls.take q.2.2.2.2.2.1).map ndOf))))::(184,nilH q.2.2.2.2.2.2 (q.2.2.2.2.1, .own 104 3 (t3s (((ls.drop m).take q.2.2.2.2.2.2).map dvOf))))::(107,some (q.2.2.1, .own 106 9 (lns (ls.take q.2.1))))::(102,some (1, .box [.sl [] true, .sl [] true]))::[],q.1⟩)
  (fun q=>q.2.1<=ls.length/\q.2.2.2.2.2.1=min q.2.1 m/\q.2.2.2.2.2.2=q.2.1 - m) (fun q=>ls.length - q.2.1) (_,0,23,0,0,0,0) ⟨Nat.zero_le _,by simp,by simp⟩ (.of (Nat.le_refl _) (uHF1 @lns_nil) uWF) ?_
 rintro⟨ck,i,g,g1,g2,na,nd⟩ ⟨hi,hna,hnd0⟩
 simp only at hi hna hnd0
 have hT2:T.length=ls.length:=htl
 repeat refine uA1 @hT2 ?_
 refine uW ?_;refine condP _ rfl (fun h1=>?_) (fun h1=>?_)
 ·have hlt:i<ls.length:=by omega
  have hltT:i<T.length:=by omega
  have hrdi:=hrd i hlt
  have hndi:=hnd i
  have hdvi:=hdv i
  have htk:=take_getD (d:=default) hlt
  have htkl:(ls.take i).length=i:=by rw[List.length_take];omega
  generalize e1:ls.getD i default=x at*
  obtain⟨xnm,xkd,xln,xzn,xex,xdk,xdn,xdw,xns⟩:=x
  simp only at hndi hdvi
  refine uR1 (strs_getD hltT) ?_;intro K hK
  refine⟨by omega,?_⟩
  refine callP uTS (hrdi) uTS uTS uTS ?_;refine uS ?_
  refine uH ?_
  refine hK _ ?_;clear hK K
  by_cases him:i<m
  ·have hkd:=hndi him
   have dk:decide (¬xkd=0)=true:=decide_eq_true hkd
   obtain rfl:na=i:=by omega
   obtain rfl:nd=0:=by omega
   have htm:∀l:List Ln,(l++[(⟨xnm,xkd,xln,xzn,xex,xdk,xdn,xdw,xns⟩:Ln)]).map ndOf=l.map ndOf++[⟨xnm,xkd,xln,xzn,xex⟩]:=fun l=>by rw[List.map_append];rfl
   have htm1:[(⟨xnm,xkd,xln,xzn,xex,xdk,xdn,xdw,xns⟩:Ln)].map ndOf=[⟨xnm,xkd,xln,xzn,xex⟩]:=rfl
   simp only[nilC_z,nilH_z]
   by_cases hi0':na=0
   ·subst hi0'
    simp only[nilC_z,nilH_z]
    repeat first|refine uC ?_|refine uA1 (uI @dk @htkl) ?_
    refine⟨(_,0+1,g,ck+43,g2,0+1,0),⟨by simp only;omega,by simp only;omega,by simp only;omega⟩,by simp only;omega, .of (Nat.le_refl _) (uHF1 (uI @htk (uI @htm (uI @htm1 (uI @nds_one (uI @nilC_s @nilH_s)))))) uWF⟩
   ·simp only[nilC_p hi0',nilH_p hi0']
    repeat first|refine uC ?_|refine uA1 (uI @dk @htkl) ?_
    refine⟨(_,na+1,g,g1,g2,na+1,0),⟨by simp only;omega,by simp only;omega,by simp only;omega⟩,by simp only;omega, .of (Nat.le_refl _) (uHF1 (uI @htk (uI @htm (uI @nilC_s @nilH_s)))) uWF⟩
  ·have hkd:=hdvi (by omega) hlt
   have dk:decide (¬xkd=0)=false:=decide_eq_false (fun h=>h hkd)
   obtain⟨na',rfl⟩:∃k,na=k+1:=⟨na - 1,by omega⟩
   obtain rfl:m=na'+1:=by omega
   have hdl:nd<(ls.drop (na'+1)).length:=by rw[List.length_drop];omega
   have hdg:(ls.drop (na'+1)).getD nd default=⟨xnm,xkd,xln,xzn,xex,xdk,xdn,xdw,xns⟩:=by
    rw[<-e1]
    simp only[List.getD_eq_getElem?_getD,List.getElem?_drop]
    congr 2
    omega
   have htm:((ls.drop (na'+1)).take (nd+1)).map dvOf=((ls.drop (na'+1)).take nd).map dvOf++[⟨xdk,xdn,xdw⟩]:=by rw[take_getD (d:=default) hdl,List.map_append,hdg];rfl
   have hdtl:((ls.drop (na'+1)).take nd).length=nd:=by rw[List.length_take];omega
   simp only[nilC_s,nilH_s]
   by_cases hi0':nd=0
   ·subst hi0'
    simp only[nilC_z,nilH_z]
    repeat first|refine uC ?_|refine uA1 (uI @dk @htkl) ?_
    refine⟨(_,i+1,g,g1,ck+43,na'+1,0+1),⟨by simp only;omega,by simp only;omega,by simp only;omega⟩,by simp only;omega, .of (Nat.le_refl _) (uHF1 (uI @htm (uI @htk (uI @t3s_one (uI @nilC_s @nilH_s))))) uWF⟩
   ·simp only[nilC_p hi0',nilH_p hi0']
    repeat first|refine uC ?_|refine uA1 (uI @dk (uI @htkl @hdtl)) ?_
    refine⟨(_,i+1,g,g1,g2,na'+1,nd+1),⟨by simp only;omega,by simp only;omega,by simp only;omega⟩,by simp only;omega, .of (Nat.le_refl _) (uHF1 (uI @htm (uI @htk (uI @nilC_s @nilH_s)))) uWF⟩
 ·refine awp_exit ?_
  obtain rfl:i=ls.length:=by omega
  clear hrd hspl hTl hTg hTt hll1
  obtain rfl:na=m:=by omega
  obtain⟨na',rfl⟩:∃k,na=k+1:=⟨na - 1,by omega⟩
  rw[List.take_length]
  have hdz:(ls.drop (na'+1)).take nd=ls.drop (na'+1):=List.take_of_length_le (by rw[List.length_drop];omega)
  rw[hdz,<-dvS_zero]
  have hmz:nds ((ls.take (na'+1)).map ndOf)=mixes (mixS ls (na'+1) 0 0):=by
   rw[mixes_nds]
   congr 1
   apply List.ext_getElem
   ·simp[mixS_len];omega
   ·intro j h1 h2
    simp only[List.length_map,mixS_len] at h2
    simp[mixS,cnJ,exN,show j<ls.length by omega]
  rw[hmz]
  simp only[nilC_s,nilH_s]
  repeat refine uA ?_
  refine uW ?_;refine condP _ rfl (fun hh=>?_) (fun hh=>?_)
  ·exact absurd rfl hh
  iterate 3 (first|refine awp_skip ?_|refine awp_seq ?_)
  refine awp_merge (fun q:Nat×Nat=>⟨[(2, .ptO 102 1 0 0 0),(7, .slO 107 g 0 ls.length),(8, .ptO 108 24 0 0 0),(12,I 0)],
   (108,some (24, .box [.slO 177 g1 0 (na'+1), .slO 184 q.2 0 nd]))::(177,some (g1, .own 49 5 (mixes (mixS ls (na'+1) 0 0))))::(184,some (q.2, .own 104 3 (t3s (dvS ls (na'+1) 0))))::(107,some (g, .own 106 9 (lns ls)))::(102,some (1, .box [.sl [] true, .sl [] true]))::[],q.1⟩) (fun _=>True) ?_ ?_
  ·by_cases hnz:nd=0
   ·subst hnz
    have hdn:dvS ls (na'+1) 0=[]:=List.length_eq_zero_iff.1 (by rw[dvS_len];omega)
    simp only[nilC_z,nilH_z,hdn]
    refine awp_nil0 184 108 24 104 3 1 (by decide) rfl rfl rfl ?_
    first|refine uS ?_|exact uX
    repeat refine uA ?_
    refine⟨(_,ck+6), .of (Nat.le_refl _) (uHF1 @t3s_nil) uWF⟩
   ·simp only[nilC_p hnz,nilH_p hnz]
    repeat refine uA ?_
    refine⟨(_,g2),trivial,uKF⟩
  rintro⟨ck0,g2⟩ -
  repeat refine uA ?_
  refine uW ?_
  refine awp_loopW (fun q:Nat×Nat=>⟨[(2, .ptO 102 1 0 0 0),(7, .slO 107 g 0 ls.length),(8, .ptO 108 24 0 0 0),(12,I q.2)],
   (108,some (24, .box [.slO 177 g1 0 (na'+1), .slO 184 g2 0 nd]))::(177,some (g1, .own 49 5 (mixes (mixS ls (na'+1) q.2 0))))::(184,some (g2, .own 104 3 (t3s (dvS ls (na'+1) (cD (na'+1) q.2 0)))))::(107,some (g, .own 106 9 (lns ls)))::(102,some (1, .box [.sl [] true, .sl [] true]))::[],q.1⟩)
   (fun q=>q.2<=ls.length) (fun q=>ls.length - q.2) (_,0) (Nat.zero_le _) (.of (Nat.le_refl _) (uHF1 (show cD (na'+1) 0 0=0 from if_pos (by omega))) uWF) ?_
  rintro⟨ck,i⟩ hi
  simp only at hi
  repeat refine uA ?_
  refine uW ?_;refine condP _ rfl (fun h3=>?_) (fun h3=>?_)
  ·have hlt:i<ls.length:=by omega
   have hfi:=hfn i hlt
   have hdi:=hd1 i
   have hni:=hnl i hlt
   have hx0i:=hx0 i hlt
   repeat refine uA ?_
   refine uW ?_
   refine awp_loopW (fun q:Nat×Nat=>⟨[(2, .ptO 102 1 0 0 0),(7, .slO 107 g 0 ls.length),(8, .ptO 108 24 0 0 0),(12,I i),(13,I q.2)],
    (108,some (24, .box [.slO 177 g1 0 (na'+1), .slO 184 g2 0 nd]))::(177,some (g1, .own 49 5 (mixes (mixS ls (na'+1) i q.2))))::(184,some (g2, .own 104 3 (t3s (dvS ls (na'+1) (cD (na'+1) i q.2)))))::(107,some (g, .own 106 9 (lns ls)))::(102,some (1, .box [.sl [] true, .sl [] true]))::[],q.1⟩)
    (fun q=>q.2<=(ls.getD i default).names.length) (fun q=>(ls.getD i default).names.length - q.2) (_,0) (Nat.zero_le _) (.of (Nat.le_refl _) uHF uWF) ?_
   rintro⟨ck2,k⟩ hk
   simp only at hk
   have hml2:=mixS_len ls (na'+1) i k
   have hfd:=fun nm=>mixS_fnd (i:=i) (k:=k) hml nm
   have hset:=mixS_set (ls:=ls) (m:=na'+1) (i:=i) (k:=k)
   have hget:=mixS_getD (ls:=ls) (m:=na'+1) (i:=i) (k:=k) (j:=i)
   generalize e1:ls.getD i default=x at*
   repeat refine uA1 (uI (lns_getD hlt) @e1) ?_
   refine uW ?_;refine condP _ rfl (fun h4=>?_) (fun h4=>?_)
   ·have hkx:k<x.names.length:=by omega
    have hfk:=hfi k hkx
    have hsat:=find_sat ⟨(mixS ls (na'+1) i k).map (·.1),dvS ls (na'+1) (cD (na'+1) i k)⟩ (x.names.getD k .empty) (by simp only[List.length_map];omega)
    simp only[hfd] at hsat
    have hfle:fnd ls (na'+1) (x.names.getD k .empty)<=1000:=by
     rw[fnd,findN]
     split
     ·rename_i j hj
      rw[List.findIdx?_eq_some_iff_getElem] at hj
      obtain⟨hj,_⟩:=hj
      simp only[List.length_map,List.length_take] at hj
      omega
     ·omega
    have hexk:exN ls (na'+1) x (k+1)=(⟨x.nm,x.kd,x.ln,x.zn,(x.names.take k).map (fnd ls (na'+1))++[fnd ls (na'+1) (x.names.getD k .empty)]⟩,true):=by
     rw[exN,if_neg (by omega),hx0i,take_getD (d:= .empty) hkx,List.map_append];rfl
    have hdsl:(dvS ls (na'+1) (cD (na'+1) i k)).length=nd:=by rw[dvS_len];omega
    generalize hms:mixS ls (na'+1) i k=ms at*
    generalize hds:dvS ls (na'+1) (cD (na'+1) i k)=ds at*
    generalize hff:fnd ls (na'+1) (x.names.getD k .empty)=f at*
    refine uE1 (uI (lns_getD hlt) (uI @e1 (uI (strs_getD hkx) (uI @mixes_length (uI @hml2 @hdsl))))) ?_;intro K hK
    refine uH ?_
    refine callF (rc:=I f) ?_ ?_ ?_ ?_ ?_ ?_;(focus (first|exact trivial|(simp only[go_sem,Nat.reduceAdd,Nat.reduceSub,Nat.reduceMul,Nat.reduceLT,Nat.reduceEqDiff,Nat.reduceBEq,Nat.reduceLeDiff,Int.reduceToNat,↓reduceIte,Int.reduceEq,Int.reduceLT,Int.reduceLE,Int.reduceAdd,Int.reduceSub,Int.reduceNeg,reduceCtorEq,mixes_fz,mixes_fzP,mixes_fzR,mixes_length,hml2,hdsl]<;>trivial)));(focus (simp only[go_sem,Nat.reduceAdd,Nat.reduceSub,Nat.reduceMul,Nat.reduceLT,Nat.reduceEqDiff,Nat.reduceBEq,Nat.reduceLeDiff,Int.reduceToNat,↓reduceIte,Int.reduceEq,Int.reduceLT,Int.reduceLE,Int.reduceAdd,Int.reduceSub,Int.reduceNeg,reduceCtorEq,mixes_fz,mixes_fzP,mixes_fzR,mixes_length,hml2,hdsl];exact hsat));(focus (first|exact trivial|(simp only[go_sem,Nat.reduceAdd,Nat.reduceSub,Nat.reduceMul,Nat.reduceLT,Nat.reduceEqDiff,Nat.reduceBEq,Nat.reduceLeDiff,Int.reduceToNat,↓reduceIte,Int.reduceEq,Int.reduceLT,Int.reduceLE,Int.reduceAdd,Int.reduceSub,Int.reduceNeg,reduceCtorEq,mixes_fz,mixes_fzP,mixes_fzR,mixes_length,hml2,hdsl]<;>trivial)));(focus (first|exact trivial|(simp only[go_sem,Nat.reduceAdd,Nat.reduceSub,Nat.reduceMul,Nat.reduceLT,Nat.reduceEqDiff,Nat.reduceBEq,Nat.reduceLeDiff,Int.reduceToNat,↓reduceIte,Int.reduceEq,Int.reduceLT,Int.reduceLE,Int.reduceAdd,Int.reduceSub,Int.reduceNeg,reduceCtorEq,mixes_fz,mixes_fzP,mixes_fzR,mixes_length,hml2,hdsl]<;>trivial)));(focus (first|exact trivial|(simp only[go_sem,Nat.reduceAdd,Nat.reduceSub,Nat.reduceMul,Nat.reduceLT,Nat.reduceEqDiff,Nat.reduceBEq,Nat.reduceLeDiff,Int.reduceToNat,↓reduceIte,Int.reduceEq,Int.reduceLT,Int.reduceLE,Int.reduceAdd,Int.reduceSub,Int.reduceNeg,reduceCtorEq,mixes_fz,mixes_fzP,mixes_fzR,mixes_length,hml2,hdsl]<;>trivial)));first|refine uS1 (uI @mixes_fz (uI @mixes_fzP (uI @mixes_fzR (uI @mixes_length (uI @hml2 @hdsl))))) ?_|exact uX1 (uI @mixes_fz (uI @mixes_fzP (uI @mixes_fzR (uI @mixes_length (uI @hml2 @hdsl)))))
    refine uH ?_
    refine hK _ ?_;clear hK K
    repeat refine uA ?_
    refine uW ?_;refine condP _ rfl (fun h5=>?_) (fun h5=>?_)
    ·omega
    repeat refine uA1 (uI @mixes_length (uI @hml2 @hdsl)) ?_
    refine uW ?_;refine condP _ rfl (fun him=>?_) (fun him=>?_)
    ·have him':i<na'+1:=by omega
     have hims:i<ms.length:=by omega
     have hgi:=hget him'
     rw[show cnJ ls i k i=k by rw[cnJ,if_neg (Nat.lt_irrefl i),if_pos rfl]] at hgi
     have hgs:∀v,((mixes ms).set i v).getD i .bad=v:=fun v=>by
      rw[getD_set2,if_pos ⟨rfl,by rw[mixes_length];exact hims⟩]
     have hms2:∀(nm:ByteArray) (kd ln zn:Int) (ex:List Int),(mixes ms).set i (.agg [.lit (.string nm), .lit (.int .i64 kd), .lit (.int .i64 ln), .lit (.int .i64 zn), .kid 3 1 (ints ex)])=mixes (ms.set i (⟨nm,kd,ln,zn,ex⟩,true)):=fun _ _ _ _ _=>mixes_set
     have hcd:∀j,cD (na'+1) i j=cD (na'+1) i k:=fun j=>by rw[cD,cD,if_pos him',if_pos him']
     by_cases hk0:k=0
     ·have hgi0:ms.getD i default=(ndOf x,false):=by rw[hgi,exN,if_pos hk0]
      subst hk0
      (repeat first|refine awp_seq ?_|refine awp_skip ?_|refine awp_block ?_);refine awp_region_drawR hC (by kernel_rfl) (by kernel_rfl) rfl fun K hK=>?_;simp only[go_sem,Nat.reduceAdd,Nat.reduceSub,Nat.reduceMul,Nat.reduceLT,Nat.reduceEqDiff,Nat.reduceBEq,Nat.reduceLeDiff,Int.reduceToNat,↓reduceIte,Int.reduceEq,Int.reduceLT,Int.reduceLE,Int.reduceAdd,Int.reduceSub,Int.reduceNeg,reduceCtorEq,mixes_length,hml2,mixes_getD hims,hgi0,mixN,ndOf,hx0i,List.length_nil]
      refine uH ?_
      refine hK _ ?_;clear hK K
      repeat refine uA ?_
      refine⟨(_,0+1),by simp only;omega,by simp only;omega, .of (Nat.le_refl _) (by repeat (first|exact HOk.nil|refine HOk.cons rfl ?_|refine HOk.gone ?_|refine HOk.opt rfl ?_|(refine HOk.cons ?_ ?_;(focus (simp only[go_sem,Nat.reduceAdd,Nat.reduceSub,Nat.reduceMul,Nat.reduceLT,Nat.reduceEqDiff,Nat.reduceBEq,Nat.reduceLeDiff,Int.reduceToNat,↓reduceIte,Int.reduceEq,Int.reduceLT,Int.reduceLE,Int.reduceAdd,Int.reduceSub,Int.reduceNeg,reduceCtorEq,<-hset him',hexk,hms2,hgs,hcd (_+1),hds,and_self,if_false,AV.cells,List.set_set,List.take_succ_cons,List.take_zero,List.drop_succ_cons,List.drop_zero,List.cons_append,List.nil_append,List.map_nil];done)))|(refine HOk.less rfl (ObW.ofBW ?_) ?_;(focus ((repeat (first|exact BW.nil|refine BW.same ?_|(refine BW.frz ?_ ?_ ?_ ?_;(focus (first|exact trivial|(simp only[go_sem,Nat.reduceAdd,Nat.reduceSub,Nat.reduceMul,Nat.reduceLT,Nat.reduceEqDiff,Nat.reduceBEq,Nat.reduceLeDiff,Int.reduceToNat,↓reduceIte,Int.reduceEq,Int.reduceLT,Int.reduceLE,Int.reduceAdd,Int.reduceSub,Int.reduceNeg,reduceCtorEq,<-hset him',hexk,hms2,hgs,hcd (_+1),hds,and_self,if_false,AV.cells,List.set_set,List.take_succ_cons,List.take_zero,List.drop_succ_cons,List.drop_zero,List.cons_append,List.nil_append,List.map_nil]<;>trivial)));(focus (first|rfl|((simp only[go_sem,Nat.reduceAdd,Nat.reduceSub,Nat.reduceMul,Nat.reduceLT,Nat.reduceEqDiff,Nat.reduceBEq,Nat.reduceLeDiff,Int.reduceToNat,↓reduceIte,Int.reduceEq,Int.reduceLT,Int.reduceLE,Int.reduceAdd,Int.reduceSub,Int.reduceNeg,reduceCtorEq,<-hset him',hexk,hms2,hgs,hcd (_+1),hds,and_self,if_false,AV.cells,List.set_set,List.take_succ_cons,List.take_zero,List.drop_succ_cons,List.drop_zero,List.cons_append,List.nil_append,List.map_nil]<;>rfl);done)));(focus (first|(simp only[go_sem,Nat.reduceAdd,Nat.reduceSub,Nat.reduceMul,Nat.reduceLT,Nat.reduceEqDiff,Nat.reduceBEq,Nat.reduceLeDiff,Int.reduceToNat,↓reduceIte,Int.reduceEq,Int.reduceLT,Int.reduceLE,Int.reduceAdd,Int.reduceSub,Int.reduceNeg,reduceCtorEq,<-hset him',hexk,hms2,hgs,hcd (_+1),hds,and_self,if_false,AV.cells,List.set_set,List.take_succ_cons,List.take_zero,List.drop_succ_cons,List.drop_zero,List.cons_append,List.nil_append,List.map_nil];done)|((simp only[go_sem,Nat.reduceAdd,Nat.reduceSub,Nat.reduceMul,Nat.reduceLT,Nat.reduceEqDiff,Nat.reduceBEq,Nat.reduceLeDiff,Int.reduceToNat,↓reduceIte,Int.reduceEq,Int.reduceLT,Int.reduceLE,Int.reduceAdd,Int.reduceSub,Int.reduceNeg,reduceCtorEq,<-hset him',hexk,hms2,hgs,hcd (_+1),hds,and_self,if_false,AV.cells,List.set_set,List.take_succ_cons,List.take_zero,List.drop_succ_cons,List.drop_zero,List.cons_append,List.nil_append,List.map_nil]<;>simp);done)|(simp;done)))))));done)))) uWF⟩
     ·have hgi0:ms.getD i default=(⟨x.nm,x.kd,x.ln,x.zn,(x.names.take k).map (fnd ls (na'+1))⟩,true):=by rw[hgi,exN,if_neg hk0,hx0i];rfl
      have hmk:((x.names.take k).map (fnd ls (na'+1))).length<=100:=by rw[List.length_map,List.length_take];omega
      generalize (x.names.take k).map (fnd ls (na'+1))=exk at*
      (repeat first|refine awp_seq ?_|refine awp_skip ?_|refine awp_block ?_);refine awp_region_drawR hC (by kernel_rfl) (by kernel_rfl) rfl fun K hK=>?_;simp only[go_sem,Nat.reduceAdd,Nat.reduceSub,Nat.reduceMul,Nat.reduceLT,Nat.reduceEqDiff,Nat.reduceBEq,Nat.reduceLeDiff,Int.reduceToNat,↓reduceIte,Int.reduceEq,Int.reduceLT,Int.reduceLE,Int.reduceAdd,Int.reduceSub,Int.reduceNeg,reduceCtorEq,mixes_length,hml2,mixes_getD hims,hgi0,mixN]
      refine uH ?_
      refine hK _ ?_;clear hK K
      repeat refine uA ?_
      refine⟨(_,k+1),by simp only;omega,by simp only;omega, .of (Nat.le_refl _) (by repeat (first|exact HOk.nil|refine HOk.cons rfl ?_|refine HOk.gone ?_|refine HOk.opt rfl ?_|(refine HOk.cons ?_ ?_;(focus (simp only[go_sem,Nat.reduceAdd,Nat.reduceSub,Nat.reduceMul,Nat.reduceLT,Nat.reduceEqDiff,Nat.reduceBEq,Nat.reduceLeDiff,Int.reduceToNat,↓reduceIte,Int.reduceEq,Int.reduceLT,Int.reduceLE,Int.reduceAdd,Int.reduceSub,Int.reduceNeg,reduceCtorEq,<-hset him',hexk,hms2,hgs,hcd (_+1),hds,and_self,if_false,AV.cells,List.set_set,List.take_succ_cons,List.take_zero,List.drop_succ_cons,List.drop_zero,List.cons_append,List.nil_append,List.map_nil];done)))|(refine HOk.less rfl (ObW.ofBW ?_) ?_;(focus ((repeat (first|exact BW.nil|refine BW.same ?_|(refine BW.frz ?_ ?_ ?_ ?_;(focus (first|exact trivial|(simp only[go_sem,Nat.reduceAdd,Nat.reduceSub,Nat.reduceMul,Nat.reduceLT,Nat.reduceEqDiff,Nat.reduceBEq,Nat.reduceLeDiff,Int.reduceToNat,↓reduceIte,Int.reduceEq,Int.reduceLT,Int.reduceLE,Int.reduceAdd,Int.reduceSub,Int.reduceNeg,reduceCtorEq,<-hset him',hexk,hms2,hgs,hcd (_+1),hds,and_self,if_false,AV.cells,List.set_set,List.take_succ_cons,List.take_zero,List.drop_succ_cons,List.drop_zero,List.cons_append,List.nil_append,List.map_nil]<;>trivial)));(focus (first|rfl|((simp only[go_sem,Nat.reduceAdd,Nat.reduceSub,Nat.reduceMul,Nat.reduceLT,Nat.reduceEqDiff,Nat.reduceBEq,Nat.reduceLeDiff,Int.reduceToNat,↓reduceIte,Int.reduceEq,Int.reduceLT,Int.reduceLE,Int.reduceAdd,Int.reduceSub,Int.reduceNeg,reduceCtorEq,<-hset him',hexk,hms2,hgs,hcd (_+1),hds,and_self,if_false,AV.cells,List.set_set,List.take_succ_cons,List.take_zero,List.drop_succ_cons,List.drop_zero,List.cons_append,List.nil_append,List.map_nil]<;>rfl);done)));(focus (first|(simp only[go_sem,Nat.reduceAdd,Nat.reduceSub,Nat.reduceMul,Nat.reduceLT,Nat.reduceEqDiff,Nat.reduceBEq,Nat.reduceLeDiff,Int.reduceToNat,↓reduceIte,Int.reduceEq,Int.reduceLT,Int.reduceLE,Int.reduceAdd,Int.reduceSub,Int.reduceNeg,reduceCtorEq,<-hset him',hexk,hms2,hgs,hcd (_+1),hds,and_self,if_false,AV.cells,List.set_set,List.take_succ_cons,List.take_zero,List.drop_succ_cons,List.drop_zero,List.cons_append,List.nil_append,List.map_nil];done)|((simp only[go_sem,Nat.reduceAdd,Nat.reduceSub,Nat.reduceMul,Nat.reduceLT,Nat.reduceEqDiff,Nat.reduceBEq,Nat.reduceLeDiff,Int.reduceToNat,↓reduceIte,Int.reduceEq,Int.reduceLT,Int.reduceLE,Int.reduceAdd,Int.reduceSub,Int.reduceNeg,reduceCtorEq,<-hset him',hexk,hms2,hgs,hcd (_+1),hds,and_self,if_false,AV.cells,List.set_set,List.take_succ_cons,List.take_zero,List.drop_succ_cons,List.drop_zero,List.cons_append,List.nil_append,List.map_nil]<;>simp);done)|(simp;done)))))));done)))) uWF⟩
    ·have hdi':=hdi (by omega) hlt
     obtain rfl:k=0:=by omega
     obtain⟨d,hd⟩:∃d,i=na'+1+d:=⟨i - (na'+1),by omega⟩
     have hc0:cD (na'+1) i 0=d:=by rw[cD,if_neg (by omega)];omega
     have hc1:cD (na'+1) i (0+1)=d+1:=by rw[cD,if_neg (by omega)];omega
     have hdn:d<ls.length - (na'+1):=by omega
     have hg3:=dvS_getD (ls:=ls) (m:=na'+1) (d:=d) hdn
     have hs3:=dvS_set (ls:=ls) (m:=na'+1) (d:=d) hdn
     rw[if_neg (Nat.lt_irrefl d)] at hg3
     rw[<-hd,e1] at hg3 hs3
     rw[hc0] at hds
     rw[hds] at hg3 hs3
     rw[hff] at hs3
     have hdl:d<ds.length:=by omega
     have hkt3:(i:Int) - ((na':Int)+1)=d:=by omega
     have hkt4:(i:Int) - ((na'+1:Nat):Int)=d:=by omega
     have hmg:mixS ls (na'+1) i (0+1)=ms:=by rw[<-hms];exact mixS_ge (by omega)
     (repeat first|refine awp_seq ?_|refine awp_skip ?_|refine awp_block ?_);refine awp_region hC rfl fun K hK=>?_;simp only[go_sem,Nat.reduceAdd,Nat.reduceSub,Nat.reduceMul,Nat.reduceLT,Nat.reduceEqDiff,Nat.reduceBEq,Nat.reduceLeDiff,Int.reduceToNat,↓reduceIte,Int.reduceEq,Int.reduceLT,Int.reduceLE,Int.reduceAdd,Int.reduceSub,Int.reduceNeg,reduceCtorEq,mixes_length,hml2,hkt3,hkt4,t3s_getD hdl,hg3,dvOf]
     refine uH ?_
     refine hK _ ?_;clear hK K
     repeat refine uA ?_
     refine⟨(_,0+1),by simp only;omega,by simp only;omega, .of (Nat.le_refl _) (by repeat (first|exact HOk.nil|refine HOk.cons rfl ?_|refine HOk.gone ?_|refine HOk.opt rfl ?_|(refine HOk.cons ?_ ?_;(focus (simp only[go_sem,Nat.reduceAdd,Nat.reduceSub,Nat.reduceMul,Nat.reduceLT,Nat.reduceEqDiff,Nat.reduceBEq,Nat.reduceLeDiff,Int.reduceToNat,↓reduceIte,Int.reduceEq,Int.reduceLT,Int.reduceLE,Int.reduceAdd,Int.reduceSub,Int.reduceNeg,reduceCtorEq,hmg,hc1,<-hs3,and_self,if_false];done)))|(refine HOk.less rfl (ObW.ofBW ?_) ?_;(focus ((repeat (first|exact BW.nil|refine BW.same ?_|(refine BW.frz ?_ ?_ ?_ ?_;(focus (first|exact trivial|(simp only[go_sem,Nat.reduceAdd,Nat.reduceSub,Nat.reduceMul,Nat.reduceLT,Nat.reduceEqDiff,Nat.reduceBEq,Nat.reduceLeDiff,Int.reduceToNat,↓reduceIte,Int.reduceEq,Int.reduceLT,Int.reduceLE,Int.reduceAdd,Int.reduceSub,Int.reduceNeg,reduceCtorEq,hmg,hc1,<-hs3,and_self,if_false]<;>trivial)));(focus (first|rfl|((simp only[go_sem,Nat.reduceAdd,Nat.reduceSub,Nat.reduceMul,Nat.reduceLT,Nat.reduceEqDiff,Nat.reduceBEq,Nat.reduceLeDiff,Int.reduceToNat,↓reduceIte,Int.reduceEq,Int.reduceLT,Int.reduceLE,Int.reduceAdd,Int.reduceSub,Int.reduceNeg,reduceCtorEq,hmg,hc1,<-hs3,and_self,if_false]<;>rfl);done)));(focus (first|(simp only[go_sem,Nat.reduceAdd,Nat.reduceSub,Nat.reduceMul,Nat.reduceLT,Nat.reduceEqDiff,Nat.reduceBEq,Nat.reduceLeDiff,Int.reduceToNat,↓reduceIte,Int.reduceEq,Int.reduceLT,Int.reduceLE,Int.reduceAdd,Int.reduceSub,Int.reduceNeg,reduceCtorEq,hmg,hc1,<-hs3,and_self,if_false];done)|((simp only[go_sem,Nat.reduceAdd,Nat.reduceSub,Nat.reduceMul,Nat.reduceLT,Nat.reduceEqDiff,Nat.reduceBEq,Nat.reduceLeDiff,Int.reduceToNat,↓reduceIte,Int.reduceEq,Int.reduceLT,Int.reduceLE,Int.reduceAdd,Int.reduceSub,Int.reduceNeg,reduceCtorEq,hmg,hc1,<-hs3,and_self,if_false]<;>simp);done)|(simp;done)))))));done)))) uWF⟩
   ·refine awp_exit ?_
    obtain rfl:k=x.names.length:=by omega
    have hmn2:mixS ls (na'+1) i x.names.length=mixS ls (na'+1) (i+1) 0:=by rw[<-e1];exact mixS_next ls (na'+1) i
    have hcn2:cD (na'+1) i x.names.length=cD (na'+1) (i+1) 0:=cD_next (fun h=>hdi h hlt)
    repeat refine uA ?_
    refine⟨(_,i+1),by simp only;omega,by simp only;omega, .of (Nat.le_refl _) (uHF1 (uI @hmn2 @hcn2)) uWF⟩
  ·refine awp_exit ?_
   obtain rfl:i=ls.length:=by omega
   have hmf:mixS ls (na'+1) ls.length 0=mixS ls (na'+1) (na'+1) 0:=by
    unfold mixS
    refine List.map_congr_left fun j hj=>?_
    have:=List.mem_range.1 hj
    rw[cnJ,cnJ,if_pos (by omega),if_pos (by omega)]
   have hcf:cD (na'+1) ls.length 0=ls.length - (na'+1):=by rw[cD,if_neg (by omega)];rfl
   rw[hmf,hcf]
   have hv:=rvalidate_sat (prsY ls (na'+1)) hs7
   rw[hval] at hv
   have hY:prsY ls (na'+1)=⟨(mixS ls (na'+1) (na'+1) 0).map (·.1),dvS ls (na'+1) (ls.length - (na'+1))⟩:=rfl
   rw[hY] at hv ⊢
   have hml2:=mixS_len ls (na'+1) (na'+1) 0
   have hdsl:(dvS ls (na'+1) (ls.length - (na'+1))).length=nd:=by rw[dvS_len];omega
   generalize mixS ls (na'+1) (na'+1) 0=ms at*
   generalize dvS ls (na'+1) (ls.length - (na'+1))=ds at*
   refine uR ?_;intro K hK
   refine callF (rc:=I 0) ?_ ?_ ?_ ?_ ?_ ?_;(focus (first|exact trivial|(simp only[go_sem,Nat.reduceAdd,Nat.reduceSub,Nat.reduceMul,Nat.reduceLT,Nat.reduceEqDiff,Nat.reduceBEq,Nat.reduceLeDiff,Int.reduceToNat,↓reduceIte,Int.reduceEq,Int.reduceLT,Int.reduceLE,Int.reduceAdd,Int.reduceSub,Int.reduceNeg,reduceCtorEq,mixes_fz,mixes_fzP,mixes_fzR,mixes_length,hml2,hdsl]<;>trivial)));(focus (simp only[go_sem,Nat.reduceAdd,Nat.reduceSub,Nat.reduceMul,Nat.reduceLT,Nat.reduceEqDiff,Nat.reduceBEq,Nat.reduceLeDiff,Int.reduceToNat,↓reduceIte,Int.reduceEq,Int.reduceLT,Int.reduceLE,Int.reduceAdd,Int.reduceSub,Int.reduceNeg,reduceCtorEq,mixes_fz,mixes_fzP,mixes_fzR,mixes_length,hml2,hdsl];exact hv));(focus (first|exact trivial|(simp only[go_sem,Nat.reduceAdd,Nat.reduceSub,Nat.reduceMul,Nat.reduceLT,Nat.reduceEqDiff,Nat.reduceBEq,Nat.reduceLeDiff,Int.reduceToNat,↓reduceIte,Int.reduceEq,Int.reduceLT,Int.reduceLE,Int.reduceAdd,Int.reduceSub,Int.reduceNeg,reduceCtorEq,mixes_fz,mixes_fzP,mixes_fzR,mixes_length,hml2,hdsl]<;>trivial)));(focus (first|exact trivial|(simp only[go_sem,Nat.reduceAdd,Nat.reduceSub,Nat.reduceMul,Nat.reduceLT,Nat.reduceEqDiff,Nat.reduceBEq,Nat.reduceLeDiff,Int.reduceToNat,↓reduceIte,Int.reduceEq,Int.reduceLT,Int.reduceLE,Int.reduceAdd,Int.reduceSub,Int.reduceNeg,reduceCtorEq,mixes_fz,mixes_fzP,mixes_fzR,mixes_length,hml2,hdsl]<;>trivial)));(focus (first|exact trivial|(simp only[go_sem,Nat.reduceAdd,Nat.reduceSub,Nat.reduceMul,Nat.reduceLT,Nat.reduceEqDiff,Nat.reduceBEq,Nat.reduceLeDiff,Int.reduceToNat,↓reduceIte,Int.reduceEq,Int.reduceLT,Int.reduceLE,Int.reduceAdd,Int.reduceSub,Int.reduceNeg,reduceCtorEq,mixes_fz,mixes_fzP,mixes_fzR,mixes_length,hml2,hdsl]<;>trivial)));first|refine uS1 (uI @mixes_fz (uI @mixes_fzP (uI @mixes_fzR (uI @mixes_length (uI @hml2 @hdsl))))) ?_|exact uX1 (uI @mixes_fz (uI @mixes_fzP (uI @mixes_fzR (uI @mixes_length (uI @hml2 @hdsl)))))
   refine uH ?_
   refine hK _ ?_;clear hK K
   repeat refine uA ?_
   refine uF ?_
   repeat refine uA ?_
   refine awp_ret ?_;rw[show Tryz.f40.results.toList=[.cell 2 30, .tmp 3, .tmp 4] from rfl];first|refine uRN1 (uI @mixes_fz (uI @mixes_fzP (uI @mixes_fzR (uI @mixes_length (uI @hml2 @hdsl))))) ?_|exact uRM1 (uI @mixes_fz (uI @mixes_fzP (uI @mixes_fzR (uI @mixes_length (uI @hml2 @hdsl)))))
open Go.Plant
def aS:ByteArray:=⟨#[101,110,116,114,121,32,65,32,50,32,48,32,62,32,71,10,103,97,116,101,32,71,32,49,32,48,32,62,32,77,32,67,10,99,104,117,116,101,32,67,32,49,10,109,97,110,117,97,108,32,77,32,48,10,115,99,97,110,110,101,114,32,71,32,48,10]⟩
def aT0:ByteArray:=⟨#[101,110,116,114,121,32,65,32,50,32,48,32,62,32,71]⟩
def aW0:List ByteArray:=[⟨#[101,110,116,114,121]⟩,⟨#[65]⟩,⟨#[50]⟩,⟨#[48]⟩,⟨#[62]⟩,⟨#[71]⟩]
def aT1:ByteArray:=⟨#[103,97,116,101,32,71,32,49,32,48,32,62,32,77,32,67]⟩
def aW1:List ByteArray:=[⟨#[103,97,116,101]⟩,⟨#[71]⟩,⟨#[49]⟩,⟨#[48]⟩,⟨#[62]⟩,⟨#[77]⟩,⟨#[67]⟩]
def aT2:ByteArray:=⟨#[99,104,117,116,101,32,67,32,49]⟩
def aW2:List ByteArray:=[⟨#[99,104,117,116,101]⟩,⟨#[67]⟩,⟨#[49]⟩]
def aT3:ByteArray:=⟨#[109,97,110,117,97,108,32,77,32,48]⟩
def aW3:List ByteArray:=[⟨#[109,97,110,117,97,108]⟩,⟨#[77]⟩,⟨#[48]⟩]
def aT4:ByteArray:=⟨#[115,99,97,110,110,101,114,32,71,32,48]⟩
def aW4:List ByteArray:=[⟨#[115,99,97,110,110,101,114]⟩,⟨#[71]⟩,⟨#[48]⟩]
def aT:List ByteArray:=[aT0,aT1,aT2,aT3,aT4]
def aL:List Ln:=[rdN aW0 1,rdN aW1 6,rdN aW2 8,rdN aW3 9,rdS aW4]
theorem aN0:RdN aW0 1 where
 kr:=by decide
 len:=by decide+kernel
 w0:=fun j h1 h2=>(by decide+kernel:∀j,j<10->1<=j->eqB (wordsB.getD j .empty) (aW0.getD 0 .empty)=decide ((j:Int)=1)) j (by omega) h1
 ph:=by decide+kernel
 nm:=by decide+kernel
 n2:=by decide+kernel
 zn:=by decide+kernel
 ar:=by decide+kernel
 ex:=by decide+kernel
theorem aN1:RdN aW1 6 where
 kr:=by decide
 len:=by decide+kernel
 w0:=fun j h1 h2=>(by decide+kernel:∀j,j<10->1<=j->eqB (wordsB.getD j .empty) (aW1.getD 0 .empty)=decide ((j:Int)=6)) j (by omega) h1
 ph:=by decide+kernel
 nm:=by decide+kernel
 n2:=by decide+kernel
 zn:=by decide+kernel
 ar:=by decide+kernel
 ex:=by decide+kernel
theorem aN2:RdN aW2 8 where
 kr:=by decide
 len:=by decide+kernel
 w0:=fun j h1 h2=>(by decide+kernel:∀j,j<10->1<=j->eqB (wordsB.getD j .empty) (aW2.getD 0 .empty)=decide ((j:Int)=8)) j (by omega) h1
 ph:=by decide+kernel
 nm:=by decide+kernel
 n2:=by decide+kernel
 zn:=by decide+kernel
 ar:=by decide+kernel
 ex:=by decide+kernel
theorem aN3:RdN aW3 9 where
 kr:=by decide
 len:=by decide+kernel
 w0:=fun j h1 h2=>(by decide+kernel:∀j,j<10->1<=j->eqB (wordsB.getD j .empty) (aW3.getD 0 .empty)=decide ((j:Int)=9)) j (by omega) h1
 ph:=by decide+kernel
 nm:=by decide+kernel
 n2:=by decide+kernel
 zn:=by decide+kernel
 ar:=by decide+kernel
 ex:=by decide+kernel
theorem aPrs:Prs aS aT aL 4 where
 len:=by decide+kernel
 sp:=by decide+kernel
 tl:=by decide+kernel
 ll:=by decide+kernel
 ml:=by decide+kernel
 m0:=by decide
 nd:=by decide+kernel
 dv:=fun i h1 h2=>by
  have h3:i<5:=h2
  obtain rfl:i=4:=by omega
  decide+kernel
 fn:=by decide+kernel
 x0:=by decide+kernel
 d1:=fun i h1 h2=>by
  have h3:i<5:=h2
  obtain rfl:i=4:=by omega
  decide+kernel
 nl:=by decide+kernel
 rd:=fun i h=>by
  have h3:i<5:=h
  have h4:i=0\/i=1\/i=2\/i=3\/i=4:=by omega
  rcases h4 with rfl|rfl|rfl|rfl|rfl
  ·exact read_node aT0 aW0 1 (by decide+kernel) (by decide+kernel) aN0
  ·exact read_node aT1 aW1 6 (by decide+kernel) (by decide+kernel) aN1
  ·exact read_node aT2 aW2 8 (by decide+kernel) (by decide+kernel) aN2
  ·exact read_node aT3 aW3 9 (by decide+kernel) (by decide+kernel) aN3
  ·exact read_scan aT4 aW4 (by decide+kernel) (by decide+kernel) (by decide+kernel) (by decide+kernel) (by decide+kernel) (by decide+kernel)
def aY:Ly:=⟨[⟨⟨#[65]⟩,1,2,0,[1]⟩,⟨⟨#[71]⟩,6,1,0,[3,2]⟩,⟨⟨#[67]⟩,8,0,1,[]⟩,⟨⟨#[77]⟩,9,0,0,[]⟩],[⟨2,1,0⟩]⟩
theorem map_inj' {α β:Type} {f:α->β} (hf:∀x y,f x=f y->x=y):∀(a b:List α),a.map f=b.map f->a=b
 |[],[],_=>rfl
 |[],_::_,h=>by cases h
 |_::_,[],h=>by cases h
 |x::a,y::b,h=>by
  simp only[List.map_cons,List.cons.injEq] at h
  rw[hf _ _ h.1,map_inj' hf a b h.2]
theorem aY_eq:prsY aL 4=aY:=by
 have h1:(prsY aL 4).nodes.map (fun x=>(x.nm,x.kd,x.ln,x.zn,x.ex))=aY.nodes.map (fun x=>(x.nm,x.kd,x.ln,x.zn,x.ex)):=by decide+kernel
 have h2:(prsY aL 4).devs.map (fun x=>(x.a,x.b,x.c))=aY.devs.map (fun x=>(x.a,x.b,x.c)):=by decide+kernel
 have inj1:=map_inj' (f:=fun x:Nd=>(x.nm,x.kd,x.ln,x.zn,x.ex)) fun x y hxy=>by
  cases x;cases y;simp only[Prod.mk.injEq] at hxy;obtain⟨rfl,rfl,rfl,rfl,rfl⟩:=hxy;rfl
 have inj2:=map_inj' (f:=fun x:T3=>(x.a,x.b,x.c)) fun x y hxy=>by
  cases x;cases y;simp only[Prod.mk.injEq] at hxy;obtain⟨rfl,rfl,rfl⟩:=hxy;rfl
 have e1:=inj1 _ _ h1
 have e2:=inj2 _ _ h2
 generalize prsY aL 4=y at*
 cases y
 simp only at e1 e2
 rw[e1,e2]
theorem aSml:Sml7 aY:=⟨by decide+kernel,by decide+kernel,by decide+kernel,by decide+kernel⟩
theorem aVal:validE aY=0:=by decide+kernel
open Go.Plant
def aP0:Pl:=⟨[[0,0],[0],[],[]],[[],[],[],[]]⟩
def aP1:Pl:=⟨[[7,0],[0],[],[]],[[],[],[],[]]⟩
def aP2:Pl:=⟨[[0,7],[0],[],[]],[[],[],[],[]]⟩
def aP3:Pl:=⟨[[0,0],[7],[],[]],[[],[],[],[]]⟩
def aP4:Pl:=⟨[[0,0],[0],[],[]],[[],[],[7],[]]⟩
def aC:List Int:=[0,1,0,0]
theorem pl_ext {p q:Pl} (h1:p.slots=q.slots) (h2:p.bins=q.bins):p=q:=by cases p;cases q;simp only at h1 h2;rw[h1,h2]
theorem t3_ext {a b:List T3} (h:a.map (fun x=>(x.a,x.b,x.c))=b.map (fun x=>(x.a,x.b,x.c))):a=b:=
 map_inj' (f:=fun x:T3=>(x.a,x.b,x.c)) (fun x y hxy=>by
  cases x;cases y;simp only[Prod.mk.injEq] at hxy;obtain⟨rfl,rfl,rfl⟩:=hxy;rfl) _ _ h
theorem aNew:newP aY=aP0:=pl_ext (by decide+kernel) (by decide+kernel)
theorem aFit0:FitP aY.nodes aP0:=⟨by decide+kernel,by decide+kernel,by decide+kernel,by decide+kernel,by decide+kernel,by decide+kernel,by decide+kernel,by decide+kernel⟩
theorem aFit1:FitP aY.nodes aP1:=⟨by decide+kernel,by decide+kernel,by decide+kernel,by decide+kernel,by decide+kernel,by decide+kernel,by decide+kernel,by decide+kernel⟩
theorem aFit2:FitP aY.nodes aP2:=⟨by decide+kernel,by decide+kernel,by decide+kernel,by decide+kernel,by decide+kernel,by decide+kernel,by decide+kernel,by decide+kernel⟩
theorem aFit3:FitP aY.nodes aP3:=⟨by decide+kernel,by decide+kernel,by decide+kernel,by decide+kernel,by decide+kernel,by decide+kernel,by decide+kernel,by decide+kernel⟩
theorem aEx:ExOk aY.nodes:=by unfold ExOk;decide+kernel
theorem aEnter:(enterR aY aP0 0 7).1=aP1/\(enterR aY aP0 0 7).2=0:=⟨pl_ext (by decide+kernel) (by decide+kernel),by decide+kernel⟩
theorem aFF:FitF aY.nodes []:=⟨by simp,fun i hi=>by simp at hi⟩
def aLV (p:Pl):List Int×List Int:=flows aY.nodes p (wnts aY.nodes p aC [] aY.nodes.length) (order aY.nodes)
theorem aStep1:SatG Tryz.prog tab 16 [] [aY.av,aP1.av,IS aC, .sl (t3s []) false] [] (.tup [aP2.av, .sl (t3s []) false,I 0]):=by
 have h:=pstep_ok aY aP1 aC [] aSml aVal aEx aFit1 (by decide+kernel) (by decide+kernel) (by decide+kernel) aFF (by decide+kernel) (by decide+kernel) (by decide+kernel) (aLV aP1).1 (aLV aP1).2 (by decide+kernel) (by unfold LvOk;decide+kernel) (by decide+kernel) rfl
 have e1:(stepP aY.nodes aP1 aC [] (aLV aP1).1).1=aP2:=pl_ext (by decide+kernel) (by decide+kernel)
 have e2:(stepP aY.nodes aP1 aC [] (aLV aP1).1).2=[]:=t3_ext (by decide+kernel)
 rw[e1,e2] at h
 exact h
theorem aStep2:SatG Tryz.prog tab 16 [] [aY.av,aP2.av,IS aC, .sl (t3s []) false] [] (.tup [aP3.av, .sl (t3s [⟨7,0,1⟩]) false,I 0]):=by
 have h:=pstep_ok aY aP2 aC [] aSml aVal aEx aFit2 (by decide+kernel) (by decide+kernel) (by decide+kernel) aFF (by decide+kernel) (by decide+kernel) (by decide+kernel) (aLV aP2).1 (aLV aP2).2 (by decide+kernel) (by unfold LvOk;decide+kernel) (by decide+kernel) rfl
 have e1:(stepP aY.nodes aP2 aC [] (aLV aP2).1).1=aP3:=pl_ext (by decide+kernel) (by decide+kernel)
 have e2:(stepP aY.nodes aP2 aC [] (aLV aP2).1).2=[⟨7,0,1⟩]:=t3_ext (by decide+kernel)
 rw[e1,e2] at h
 exact h
theorem aStep3:SatG Tryz.prog tab 16 [] [aY.av,aP3.av,IS aC, .sl (t3s []) false] [] (.tup [aP4.av, .sl (t3s [⟨7,1,2⟩]) false,I 0]):=by
 have h:=pstep_ok aY aP3 aC [] aSml aVal aEx aFit3 (by decide+kernel) (by decide+kernel) (by decide+kernel) aFF (by decide+kernel) (by decide+kernel) (by decide+kernel) (aLV aP3).1 (aLV aP3).2 (by decide+kernel) (by unfold LvOk;decide+kernel) (by decide+kernel) rfl
 have e1:(stepP aY.nodes aP3 aC [] (aLV aP3).1).1=aP4:=pl_ext (by decide+kernel) (by decide+kernel)
 have e2:(stepP aY.nodes aP3 aC [] (aLV aP3).1).2=[⟨7,1,2⟩]:=t3_ext (by decide+kernel)
 rw[e1,e2] at h
 exact h
theorem awake_sat:SatG Tryz.prog tab 10 [] [] [] (B true):=by
 have hpa:=parse_sat aS aT aL 4 aPrs (by rw[aY_eq];exact aSml) (by rw[aY_eq];exact aVal)
 rw[aY_eq] at hpa
 have hnw:=pnew_sat aY aSml (fun _=>by decide+kernel)
 rw[aNew,aVal] at hnw
 have hen:=penter_sat aY aP0 0 7 aFit0
 rw[aEnter.1,aEnter.2] at hen
 have hs1:=aStep1
 have hs2:=aStep2
 have hs3:=aStep3
 have hwh:=pwhere_sat aP4 7 (by decide+kernel) (by decide+kernel) (by decide+kernel) (by decide+kernel)
 have hwe:whereQ aP4 7=(2,-1,true):=by decide+kernel
 rw[hwe] at hwh
 have hbo:=pbound_sat aY 2 aSml
 have hbe:clampN 2*winR aY=6:=by decide+kernel
 rw[hbe] at hbo
 obtain⟨y,hy⟩:∃y,y=aY:=⟨_,rfl⟩
 rw[<-hy] at hpa hnw hen hs1 hs2 hs3 hbo
 generalize aP0=p0 at*
 generalize aP1=p1 at*
 generalize aP2=p2 at*
 generalize aP3=p3 at*
 generalize aP4=p4 at*
 unfold aS at hpa
 unfold aC at hs1 hs2 hs3
 refine uFN Tryz.func10 Tryz.ntmps10 ?_;intro w e X hC
 refine uA ?_
 refine uR ?_;intro K hK
 refine callP uTS (hpa) uTS uTS uTS ?_;refine uS ?_
 refine hK _ ?_;clear hK K
 refine uR ?_;intro K hK
 refine callP uTS (hnw) uTS uTS uTS ?_;refine uS ?_
 refine hK _ ?_;clear hK K
 refine uR ?_;intro K hK
 refine callP uTS (hen) uTS uTS uTS ?_;refine uS ?_
 refine hK _ ?_;clear hK K
 refine uA ?_
 refine awp_weak (s':=⟨[(1, .ptO 101 7 0 0 0),(4, .ptO 104 16 0 0 0),(5,I 0),(6,I 0),(7,IS [0,1,0,0])],(104,some (16, .box [RS p1.slots,RS p1.bins]))::(101,some (7, .box [.sl (nds y.nodes) false, .sl (t3s y.devs) false]))::[],_⟩) (.of (Nat.le_refl _) (by repeat first|exact HOk.nil|refine uHN ?_|(refine HOk.cons ?_ ?_;(focus (simp only[go_sem,Nat.reduceAdd,Nat.reduceSub,Nat.reduceMul,Nat.reduceLT,Nat.reduceEqDiff,Nat.reduceBEq,Nat.reduceLeDiff,Int.reduceToNat,↓reduceIte,Int.reduceEq,Int.reduceLT,Int.reduceLE,Int.reduceAdd,Int.reduceSub,Int.reduceNeg,reduceCtorEq];done)))) (by repeat first|exact WOk.nil|refine uWN ?_|(refine WOk.cons ?_ ?_;(focus (simp only[go_sem,Nat.reduceAdd,Nat.reduceSub,Nat.reduceMul,Nat.reduceLT,Nat.reduceEqDiff,Nat.reduceBEq,Nat.reduceLeDiff,Int.reduceToNat,↓reduceIte,Int.reduceEq,Int.reduceLT,Int.reduceLE,Int.reduceAdd,Int.reduceSub,Int.reduceNeg,reduceCtorEq,ints,List.map_cons,List.map_nil];done))))) ?_
 refine uR ?_;intro K hK
 refine callP uTS (hs1) uTS uTS uTS ?_;refine uS ?_
 refine hK _ ?_;clear hK K
 refine uR ?_;intro K hK
 refine callP uTS (hs2) uTS uTS uTS ?_;refine uS ?_
 refine hK _ ?_;clear hK K
 refine uR ?_;intro K hK
 refine callP uTS (hs3) uTS uTS uTS ?_;refine uS ?_
 refine hK _ ?_;clear hK K
 refine uR ?_;intro K hK
 refine callP uTS (hwh) uTS uTS uTS ?_;refine uS ?_
 refine hK _ ?_;clear hK K
 have hl1:0<[(⟨7,0,1⟩:T3)].length:=by decide
 have hl2:0<[(⟨7,1,2⟩:T3)].length:=by decide
 have hone:decide (((1:Nat):Int)=1)=true:=rfl
 refine uR1 (uI @hone (uI @t3s_length (uI (t3s_getD hl1) (uI (t3s_getD hl2) (uI @Int.toNat_zero (uI @List.length_singleton.{0} @Bool.and_self)))))) ?_;intro K hK
 refine uH ?_
 refine callF uTS (hbo) uTS uTS uTS ?_;refine uS ?_
 refine uH ?_
 refine hK _ ?_;clear hK K
 (refine awp_ret (ret1 uRT ?_);try rfl)
end Go.Proofs.YtkhjenddapaejaaGreatDoor
namespace Go.Sym
open Go Go.Deep Go.ChangeShapes Go.WideShapes Go.ChangeAt Go.RowKit
section
variable {H:Type} {enc:TypeId×Value->H} {P:Program} {W W':World}
theorem trodAll_below (hl:laidOutB P=true) (hb:Below W.heap.size W W'):∀{ts:List TypeId} {vs:List Value} {ds:List (DataW H)} {ps:List MemPlace},(∀t∈ts,P.readableRec t=true/\t<P.types.size)->
  DataW.TrodAll enc P W 0 (fun _=>true) true ts vs ds ps->(∀x∈ps,x.block<W.heap.size)->DataW.TrodAll enc P W' 0 (fun b=>decide (b<W.heap.size)) true ts vs ds ps
 |[],vs,ds,ps,_,h,_=>by obtain⟨rfl,rfl,rfl⟩:=trodAll_nil h;exact trodAll_mk0
 |t::ts,vs,ds,ps,ht,h,hlt=>by
  obtain⟨v,vs',d,ds',p,q,rfl,rfl,rfl,h1,h2⟩:=trodAll_cons h
  have:=ht t (by simp)
  exact⟨p,q,Below.trod hl this.1 this.2 h1 hb fun x hx=>hlt x (by simp[hx]),trodAll_below hl hb (fun t' h'=>ht t' (by simp[h'])) h2 fun x hx=>hlt x (by simp[hx]),rfl⟩
theorem wf_i64 {a:Int} (h:(Lit.int .i64 a).wf=true):-9223372036854775808<=a/\a<=9223372036854775807:=by
 have h1:(decide (IntKind.min .i64<=a)&&decide (a<=IntKind.max .i64))=true:=h
 have e1:IntKind.min .i64=-9223372036854775808:=by decide
 have e2:IntKind.max .i64=9223372036854775807:=by decide
 rw[e1,e2] at h1
 simpa using h1
variable {U:Nat->Prop} {t e q:TypeId} {v:Value} {d:DataW H} {ps:List MemPlace}
theorem arg_int (ht:P.underlying t=some (.int .i64)) (hval:Value.okWide P W .any 0 t v) (hd:DataW.Trod enc P W 0 (fun _=>true) true t v d ps):∃n:Int,(-9223372036854775808<=n/\n<=9223372036854775807)/\VD W U (I n) v:=by
 obtain⟨n,rfl,_,_,hw⟩:=open_int ht hval hd
 exact⟨n,wf_i64 hw, .lit _ rfl⟩
theorem cell_spot {w:World} {a:Addr} {x:Value} (h:w.cell? a=some x):a=⟨a.block,a.off,none⟩/\a.block<w.heap.size:=by
 unfold World.cell? at h
 split at h
 ·rename_i c _ _ hb
  split at h
  ·cases h
  ·rename_i hs
   refine⟨?_,(Array.getElem?_eq_some_iff.1 hb).1⟩
   cases a with
   |mk b o s=>cases s<;>simp_all
 ·cases h
theorem VD.ints_mk (hU:∀b,U b) {a:Addr} {len cap:Nat} {zs:List Int} (hl:len<=cap) (hm:cap<=maxLen) (hz:zs.length=cap) (hc:∀i,i<cap->W.cell? (a.add i)=some (.int .i64 (zs.getD i 0))):
  VD W U (IS (zs.take len)) (.slice (some a) len cap):=by
 by_cases h0:cap=0
 ·obtain rfl:len=0:=by omega
  subst h0
  rw[List.take_zero]
  exact .nil _ _
 ·have h1:=cell_spot (hc 0 (by omega))
  have e:a=⟨a.block,a.off,none⟩:=h1.1
  have hlen:(zs.take len).length=len:=by simp;omega
  have:=VD.sl (w:=W) (U:=U) (ints (zs.take len)) false a.block a.off cap 1 (fun i=> .int .i64 (zs.getD i 0)) (hU _) h1.2 (by rw[ints_length,hlen];exact hl) hm (by simp) (by omega)
   (by intro i hi;simp[ints,AV.cells,I]) (by
    intro j hj
    rw[ints_length,hlen,Nat.mul_one] at hj
    have h2:=hc j (by omega)
    rw[e,add_plain] at h2
    exact h2) (by
    intro i hi j hj
    simp only[ints,List.getElem_map,I,AV.cells] at hj ⊢
    simp at hj;subst hj;rfl) (by
    intro i hi j hj
    rw[ints_length,hlen] at hi
    simp only[ints,List.getElem_map,I,AV.cells,List.getElem_take] at hj ⊢
    simp at hj;subst hj
    simp only[List.getElem_cons_zero,Nat.mul_one,Nat.add_zero]
    have:zs.getD i 0=zs[i]'(by omega):=by simp[show i<zs.length by omega]
    rw[this]
    exact .lit _ rfl)
  rw[ints_length,hlen] at this
  rw[<-e] at this
  exact this
theorem arg_ints (hU:∀b,U b) (ht:P.underlying t=some (.slice e)) (he:P.underlying e=some (.int .i64)) (hc:P.cellsOf e=1) (hval:Value.okWide P W .any 0 t v)
  (hd:DataW.Trod enc P W 0 (fun _=>true) true t v d ps):∃zs:List Int,zs.length<=9223372036854775807/\(∀x∈zs,-9223372036854775808<=x/\x<=9223372036854775807)/\VD W U (IS zs) v:=by
 obtain⟨a,len,cap,rfl⟩:=okWide_slice ht hval
 obtain⟨fuel,hf⟩:=hd
 rcases open_ints ht he hc hf with ⟨h1,_⟩|⟨a',len',cap',zs,h1,_,hl,hm,hz,_,hcell,hw⟩
 ·simp[Value.cells] at h1
  obtain⟨rfl,rfl,rfl⟩:=h1
  exact⟨[],by simp,by simp, .nil _ _⟩
 ·simp[Value.cells] at h1
  obtain⟨rfl,rfl,rfl⟩:=h1
  simp only[if_true] at hz
  have hm':cap<=9223372036854775807:=by unfold maxLen at hm;omega
  exact⟨zs.take len,by simp;omega,fun x hx=>wf_i64 (hw x (List.mem_of_mem_take hx)),VD.ints_mk hU hl hm hz fun i hi=>hcell i (by omega)⟩
def env0:Env:=⟨fun _=>none,fun _=>False,fun _=>none⟩
theorem own0 (b:Nat):¬OwnB env0 b:=by
 rintro(⟨id,ee,c,h,_⟩|⟨B,c,h,_⟩)<;>cases h
theorem UE_all (b:Nat):UE env0 b:=⟨fun h=>h,own0 b⟩
theorem HRel0 (w:World):HRel w env0 (Glt 1) [] where
 dead:=fun _ _=>rfl
 live:=fun id g ob h=>by simp[Hp.get] at h
 inj:=fun id id' ee ee' b c c' h=>by cases h
 lt:=fun id ee b c h=>by cases h
 nz:=fun id ee b c h=>by cases h
 kl:=fun b B c h=>by cases h
 ko:=fun b h=>rfl
 kk:=fun b B c h=>by cases h
theorem law_any {T:Tab} {f:FuncId} {as1:List AV} {vals:Array Value} (h:SatG P T f [] as1 [] (B true)) (hg:GOk T W (UE env0)) (hsz:as1.length=vals.size) (hv:∀i (hi:i<as1.length),VD W (UE env0) as1[i] (vals.getD i undef)):
  Calls P f vals W fun e W'=>e= .returned (.bool true)/\Below W.heap.size W W':=by
 have h:=h.2 W env0 vals (HRel0 W) (fun b hb=>hb.elim) hg hsz (fun i hi=> .dat _ _ (hv i hi))
 refine h.mono ?_
 rintro e W' ⟨v,e',rfl,_,hv,_,_,_,hf⟩
 cases hv with
 |dat _ _ hv=>
  cases hv with
  |lit _ _=>exact⟨rfl,hf.os,hf.tape,hf.output,hf.size,fun k hk=>hf.same k hk (own0 k)⟩
theorem laid_bytes {g fuel n:Nat} {nm:String} {zs:List Int} {cs:Array Value} {p:List MemPlace} {enc:TypeId×Value->Unit} {spare:Nat->Bool} {held:Bool} (hg:P.globalNamed nm=some g) (hU:∀b,U b) (ht:P.underlying t=some (.array n e)) (he:P.underlying e=some (.int .u8)) (hc:P.cellsOf e=1)
  (hv:W.var? P nm=some cs) (hd:DataW.trod enc P W 0 spare held fuel t cs.toList=some (.agg (zs.map fun z=> .lit (.int .u8 z)),p)) (hn:zs.length=n) (h0:0<n):VD W U (.ptI (zs.map fun z=> .lit (.int .u8 z))) (.pointer (some ⟨g,0,none⟩)):=by
 obtain⟨xs,m,_,ex,_,hl,hel⟩:=DataW.trod_array ht hd
 have cell:∀r,r<n->W.cell? ⟨g,r,none⟩=some (.int .u8 (zs.getD r 0)):=by
  intro r hr
  have hE:=hel r hr
  rw[hc,Nat.mul_one,List.getElem?_eq_getElem (by omega)] at hE
  obtain⟨z,e1,e2,_⟩:=DataW.trod_int he hE
  have e3:(xs.map (·.1))=zs.map fun n=> .lit (.int .u8 n):=(DataW.agg.inj (Prod.mk.inj ex).1).symm
  have e4:(xs.map (·.1))[r]?=(zs.map fun n=>(DataW.lit (.int .u8 n):DataW Unit))[r]?:=by rw[e3]
  rw[List.getElem?_map,List.getElem?_map,List.getElem?_eq_getElem (by omega:r<xs.length),List.getElem?_eq_getElem (by omega:r<zs.length),e2] at e4
  have hz:z=zs.getD r 0:=by
   simp only[Option.map_some,Option.some.injEq,DataW.lit.injEq,Lit.int.injEq,true_and] at e4
   rw[e4,List.getD,List.getElem?_eq_getElem (by omega:r<zs.length)];rfl
  rw[World.var?_cell hg hv r,<-hz]
  have:cs.toList[r]?=some (.int .u8 z):=by
   have h0:((cs.toList.drop r).take 1)[0]?=some (.int .u8 z):=by rw[e1];rfl
   simpa using h0
  simpa using this
 refine .ptI _ g 0 (fun i=> .int .u8 (zs.getD i 0)) (hU _) (cell_spot (cell 0 h0)).2 ?_ ?_ ?_
 ·intro j hj
  rw[Nat.zero_add]
  exact cell j (by simpa[hn] using hj)
 ·intro j hj
  simp[AV.one]
 ·intro j hj
  rw[List.length_map] at hj
  simp only[List.getElem_map]
  have:zs.getD j 0=zs[j]'(by omega):=by simp[show j<zs.length by omega]
  rw[this]
  exact .lit _ rfl
theorem laid_strs {g fuel:Nat} {nm:String} {ss:List ByteArray} {cs:Array Value} {p:List MemPlace} {enc:TypeId×Value->Unit} {spare:Nat->Bool} {held:Bool} (hg:P.globalNamed nm=some g) (hU:∀b,U b) (ht:P.underlying t=some (.slice e)) (he:P.underlying e=some .string) (hc:P.cellsOf e=1)
  (hv:W.var? P nm=some cs) (hd:DataW.trod enc P W 0 spare held fuel t cs.toList=some (.slice (ss.map fun z=> .lit (.string z.data.toList)) [],p)) (h0:0<ss.length):VD W U (.ptI [.sl (ss.map S) false]) (.pointer (some ⟨g,0,none⟩)):=by
 rcases open_strs ht he hc hd with ⟨_,hx⟩|⟨a,len,cap,m,Sx,hcs,_,hlc,hm,hmm,hx,hcell⟩
 ·simp at hx
 ·simp only[Prod.mk.injEq,DataW.slice.injEq] at hx
  obtain⟨⟨hx,hsp⟩,_⟩:=hx
  have hlen:ss.length=len:=by simpa using congrArg List.length hx
  have hlm:len<=m:=by rw[hmm];split<;>omega
  have hS:∀i (hi:i<ss.length),Sx i=ss[i]:=by
   intro i hi
   have h1:(ss.map fun z=>(DataW.lit (.string z.data.toList):DataW Unit))[i]?=((List.range len).map fun i=>(DataW.lit (.string (Sx i).data.toList):DataW Unit))[i]?:=by rw[hx]
   rw[List.getElem?_map,List.getElem?_map,List.getElem?_eq_getElem hi,List.getElem?_eq_getElem (by simpa[hlen] using hi)] at h1
   simp only[Option.map_some,Option.some.injEq,DataW.lit.injEq,Lit.string.injEq,List.getElem_range] at h1
   have h2:=Array.toList_inj.1 h1
   cases h3:ss[i] with|mk d1=>cases h4:Sx i with|mk d2=>rw[h3,h4] at h2;simp only at h2;rw[h2]
  have hv0:=World.var?_cell hg hv 0
  rw[Array.eq_one_of_toList hcs] at hv0
  have hv0:W.cell? ⟨g,0,none⟩=some (.slice (some a) len cap):=by simpa using hv0
  have ha:=cell_spot (hcell 0 (by omega)).1
  have ea:a=⟨a.block,a.off,none⟩:=ha.1
  refine .ptI _ g 0 (fun _=> .slice (some a) len cap) (hU _) (cell_spot hv0).2 ?_ (by intro j hj;simp at hj;subst hj;rfl) ?_
  ·intro j hj
   simp at hj;subst hj;exact hv0
  ·intro j hj
   simp at hj;subst hj
   have:=VD.sl (w:=W) (U:=U) (ss.map S) false a.block a.off cap 1 (fun i=> .string (Sx i)) (hU _) ha.2 (by simp[hlen,hlc]) hm (by simp) (by omega)
    (by intro i hi;simp[AV.cells,S]) (by
     intro j hj
     rw[List.length_map,hlen,Nat.mul_one] at hj
     have h2:=(hcell j (by omega)).1
     rw[ea,add_plain] at h2
     exact h2) (by
     intro i hi j hj
     simp only[List.getElem_map,S,AV.cells] at hj ⊢
     simp at hj;subst hj;rfl) (by
     intro i hi j hj
     simp only[List.getElem_map,S,AV.cells] at hj ⊢
     simp at hj;subst hj
     simp only[List.getElem_cons_zero,Nat.mul_one,Nat.add_zero]
     rw[hS i (by simpa using hi)]
     exact .lit _ rfl)
   rw[List.length_map,hlen] at this
   rw[<-ea] at this
   exact this
end
end Go.Sym
