/- Lemmas towards plantSteps_card: no conditions of their own beyond those that each one states. -/
import Derived.Test.YtkhjenddapaejaaGreatDoorA3
import Derived.RangeFuncSeq
import Derived.RangeFuncIn
import Derived.RangeFuncCalls
set_option linter.all false
set_option linter.unusedSimpArgs false
set_option linter.unusedVariables false
set_option linter.deprecated false
namespace Go.Proofs.YtkhjenddapaejaaGreatDoor
open Go Go.Sym
def free (s:List Int):Nat:=s.count 0
theorem count_take {s:List Int} {i:Nat} (h:i<s.length):(s.take (i+1)).count 0=(s.take i).count 0+if s.getD i 0=0 then 1 else 0:=by
 rw[List.take_add_one,List.getElem?_eq_getElem h,List.count_append,List.getD_eq_getElem?_getD,List.getElem?_eq_getElem h]
 simp[List.count_cons,List.count_nil]
theorem free_sat (s:List Int) (hn:s.length<=9223372036854775807):SatG Tryz.prog tab 22 [] [IS s] [] (I (free s)):=by
 refine uFN Tryz.func22 Tryz.ntmps22 ?_;intro w e X hC
 repeat refine uA ?_
 refine uW ?_
 refine awp_loopW (fun i:Nat×Nat=>⟨[(0,IS s),(3,I ((s.take i.2).count 0:Nat)),(4,I i.2)],[],i.1⟩) (fun i=>i.2<=s.length) (fun i=>s.length - i.2) (_,0) (Nat.zero_le _) (uKF) ?_
 rintro⟨ck,i⟩ hi
 simp only at hi
 have hc:(s.take i).count 0<=i:=Nat.le_trans List.count_le_length (by simp;omega)
 repeat refine uA ?_
 refine uW ?_;refine condP _ rfl (fun h=>?_) (fun h=>?_)
 ·have hlt:i<s.length:=by omega
  have e1:=count_take hlt
  generalize (s.take i).count 0=c at*
  repeat refine uA1 (ints_getD hlt) ?_
  refine uW ?_;refine condP _ rfl (fun e'=>?_) (fun e'=>?_)
  ·rw[if_pos e'] at e1
   repeat refine uA ?_
   refine⟨(_,i+1),by simp only;omega,by simp only;omega, .of (Nat.le_refl _) uHF (uWF1 @e1)⟩
  ·rw[if_neg e'] at e1
   repeat refine uA ?_
   refine⟨(_,i+1),by simp only;omega,by simp only;omega, .of (Nat.le_refl _) uHF (uWF1 @e1)⟩
 ·refine awp_exit ?_
  have hi':i=s.length:=by omega
  subst hi'
  repeat refine uA ?_
  (refine awp_ret (ret1 uRT ?_);try rfl)
  rw[List.take_length];rfl
def isStrip (kd:Int):Bool:=decide (1<=kd)&&decide (kd<=6)
theorem strip7_sat (kd:Int):SatG Tryz.prog tab 28 [] [I kd] [] (B (isStrip kd)):=by
 refine uFN Tryz.func28 Tryz.ntmps28 ?_;intro w e X hC
 repeat refine uA ?_
 by_cases c1:1<=kd
 ·have d1:decide (1<=kd)=true:=decide_eq_true c1
  repeat refine uA1 @d1 ?_
  (refine awp_ret (ret1 uRT ?_);try rfl)
  simp only[go_sem,Nat.reduceAdd,Nat.reduceSub,Nat.reduceMul,Nat.reduceLT,Nat.reduceEqDiff,Nat.reduceBEq,Nat.reduceLeDiff,Int.reduceToNat,↓reduceIte,Int.reduceEq,Int.reduceLT,Int.reduceLE,Int.reduceAdd,Int.reduceSub,Int.reduceNeg,reduceCtorEq,isStrip,d1,Bool.true_and]
 ·have d1:decide (1<=kd)=false:=decide_eq_false c1
  repeat refine uA1 @d1 ?_
  (refine awp_ret (ret1 uRT ?_);try rfl)
  simp only[go_sem,Nat.reduceAdd,Nat.reduceSub,Nat.reduceMul,Nat.reduceLT,Nat.reduceEqDiff,Nat.reduceBEq,Nat.reduceLeDiff,Int.reduceToNat,↓reduceIte,Int.reduceEq,Int.reduceLT,Int.reduceLE,Int.reduceAdd,Int.reduceSub,Int.reduceNeg,reduceCtorEq,isStrip,d1,Bool.false_and]
theorem same_rows {a b:List (List Int)} (h:a.length=b.length) (h':∀j,j<a.length->a.getD j []=b.getD j []):a=b:=by
 refine List.ext_getElem h fun j h1 h2=>?_
 have:=h' j h1
 simpa[h1,h2] using this
theorem samePlant_sat (p q:Pl) (h1:p.slots.length<=1000) (h2:p.bins.length<=1000) (h3:∀r∈p.slots,r.length<=9223372036854775807) (h4:∀r∈p.bins,r.length<=9223372036854775807) (h5:q.slots.length<=9223372036854775807) (h6:q.bins.length<=9223372036854775807):
  SatG Tryz.prog tab 56 [] [p.av,q.av] [] (B (decide (p.slots=q.slots/\p.bins=q.bins))):=by
 have hno:¬(p.slots=q.slots/\p.bins=q.bins)->B (decide (p.slots=q.slots/\p.bins=q.bins))=B false:=fun h=>by rw[decide_eq_false h]
 refine uFN Tryz.func56 Tryz.ntmps56 ?_;intro w e X hC
 repeat refine uA ?_
 by_cases c1:p.slots.length=q.slots.length
 ·have d1:decide (¬(p.slots.length:Int)=q.slots.length)=false:=decide_eq_false (by omega)
  refine uR1 @d1 ?_;intro K hK
  refine uH ?_;refine hK _ ?_;clear hK K
  refine uW ?_;refine condP _ rfl (fun c2=>?_) (fun c2=>?_)
  ·repeat refine uA ?_
   (refine awp_ret (ret1 uRT ?_);try rfl)
   exact(hno fun h=>c2 (by rw[h.2])).symm
  ·have c2':p.bins.length=q.bins.length:=by omega
   repeat refine uA ?_
   refine uW ?_
   refine awp_loopW (fun i:Nat×Nat=>⟨[(2, .ptO 102 1 0 0 0),(3, .ptO 103 2 0 0 0),(5,I i.2)],[(102,some (1, .box [RS p.slots,RS p.bins])),(103,some (2, .box [RS q.slots,RS q.bins]))],i.1⟩) (fun i=>i.2<=p.slots.length/\∀j,j<i.2->p.slots.getD j []=q.slots.getD j []) (fun i=>p.slots.length - i.2) (_,0) ⟨Nat.zero_le _,fun j hj=>absurd hj (Nat.not_lt_zero _)⟩ (uKF) ?_
   rintro⟨ck,i⟩ ⟨hi,hj⟩
   simp only at hi hj
   repeat refine uA ?_
   refine uW ?_;refine condP _ rfl (fun h=>?_) (fun h=>?_)
   ·have hlt:i<p.slots.length:=by omega
    have hlt':i<q.slots.length:=by omega
    refine uE1 (uI (rows_getD hlt) (rows_getD hlt')) ?_;intro K hK
    refine uH ?_
    refine callF uTS ((ints_sat (p.slots.getD i []) (q.slots.getD i []) (h3 _ (by rw[List.getD_eq_getElem?_getD,List.getElem?_eq_getElem hlt];exact List.getElem_mem hlt)))) uTS uTS uTS ?_;refine uS ?_
    by_cases c3:p.slots.getD i []=q.slots.getD i []
    ·have d3:decide (p.slots.getD i []=q.slots.getD i [])=true:=decide_eq_true c3
     first|refine uS1 @d3 ?_|exact uX1 @d3
     refine hK _ ?_;clear hK K
     refine uF ?_
     repeat refine uA ?_
     refine⟨(_,i+1),⟨by omega,fun j hj'=>?_⟩,by simp only;omega,uKF⟩
     by_cases hji:j=i
     ·subst hji;exact c3
     ·exact hj j (by omega)
    ·have d3:decide (p.slots.getD i []=q.slots.getD i [])=false:=decide_eq_false c3
     first|refine uS1 @d3 ?_|exact uX1 @d3
     refine hK _ ?_;clear hK K
     refine uT ?_
     repeat refine uA ?_
     (refine awp_ret (ret1 uRT ?_);try rfl)
     exact(hno fun h=>c3 (by rw[h.1])).symm
   ·refine awp_exit ?_
    have hs:p.slots=q.slots:=same_rows c1 fun j h=>hj j (by omega)
    clear hj hi h
    repeat refine uA ?_
    refine uW ?_
    refine awp_loopW (fun i:Nat×Nat=>⟨[(2, .ptO 102 1 0 0 0),(3, .ptO 103 2 0 0 0),(6,I i.2)],[(102,some (1, .box [RS p.slots,RS p.bins])),(103,some (2, .box [RS q.slots,RS q.bins]))],i.1⟩) (fun i=>i.2<=p.bins.length/\∀j,j<i.2->p.bins.getD j []=q.bins.getD j []) (fun i=>p.bins.length - i.2) (_,0) ⟨Nat.zero_le _,fun j hj=>absurd hj (Nat.not_lt_zero _)⟩ (uKF) ?_
    rintro⟨ck,i⟩ ⟨hi,hj⟩
    simp only at hi hj
    repeat refine uA ?_
    refine uW ?_;refine condP _ rfl (fun h=>?_) (fun h=>?_)
    ·have hlt:i<p.bins.length:=by omega
     have hlt':i<q.bins.length:=by omega
     refine uE1 (uI (rows_getD hlt) (rows_getD hlt')) ?_;intro K hK
     refine uH ?_
     refine callF uTS ((ints_sat (p.bins.getD i []) (q.bins.getD i []) (h4 _ (by rw[List.getD_eq_getElem?_getD,List.getElem?_eq_getElem hlt];exact List.getElem_mem hlt)))) uTS uTS uTS ?_;refine uS ?_
     by_cases c3:p.bins.getD i []=q.bins.getD i []
     ·have d3:decide (p.bins.getD i []=q.bins.getD i [])=true:=decide_eq_true c3
      first|refine uS1 @d3 ?_|exact uX1 @d3
      refine hK _ ?_;clear hK K
      refine uF ?_
      repeat refine uA ?_
      refine⟨(_,i+1),⟨by omega,fun j hj'=>?_⟩,by simp only;omega,uKF⟩
      by_cases hji:j=i
      ·subst hji;exact c3
      ·exact hj j (by omega)
     ·have d3:decide (p.bins.getD i []=q.bins.getD i [])=false:=decide_eq_false c3
      first|refine uS1 @d3 ?_|exact uX1 @d3
      refine hK _ ?_;clear hK K
      refine uT ?_
      repeat refine uA ?_
      (refine awp_ret (ret1 uRT ?_);try rfl)
      exact(hno fun h=>c3 (by rw[h.2])).symm
    ·refine awp_exit ?_
     have hs2:p.bins=q.bins:=same_rows c2' fun j h=>hj j (by omega)
     repeat refine uA ?_
     (refine awp_ret (ret1 uRT ?_);try rfl)
     first|refine uS1 (decide_eq_true (show p.slots=q.slots/\p.bins=q.bins from⟨hs,hs2⟩)) ?_|exact uX1 (decide_eq_true (show p.slots=q.slots/\p.bins=q.bins from⟨hs,hs2⟩))
 ·have d1:decide (¬(p.slots.length:Int)=q.slots.length)=true:=decide_eq_true (by omega)
  refine uR1 @d1 ?_;intro K hK
  refine hK _ ?_;clear hK K
  refine uT ?_
  repeat refine uA ?_
  (refine awp_ret (ret1 uRT ?_);try rfl)
  exact(hno fun h=>c1 (by rw[h.1])).symm
theorem same_sat (p q:Pl) (h1:p.slots.length<=1000) (h2:p.bins.length<=1000) (h3:∀r∈p.slots,r.length<=9223372036854775807) (h4:∀r∈p.bins,r.length<=9223372036854775807) (h5:q.slots.length<=9223372036854775807) (h6:q.bins.length<=9223372036854775807):
  SatG Tryz.prog tab 18 [] [p.av,q.av] [] (B (decide (p.slots=q.slots/\p.bins=q.bins))):=by
 refine uFN Tryz.func18 Tryz.ntmps18 ?_;intro w e X hC
 repeat refine uA ?_
 refine uR ?_;intro K hK
 refine callF uTS ((samePlant_sat p q h1 h2 h3 h4 h5 h6)) uTS uTS uTS ?_;refine uS ?_
 refine hK _ ?_;clear hK K
 (refine awp_ret (ret1 uRT ?_);try rfl)
def whereP (p:Pl) (b:Int):Int×Int×Bool:=
 match (if b=0 then none else p.slots.findIdx? fun r=>decide (b∈r)) with
 |some n=>(n,((((p.slots.getD n []).findIdx? fun x=>decide (x=b)).getD 0:Nat):Int),true)
 |none=>match p.bins.findIdx? fun r=>decide (b∈r) with
  |some n=>(n,-1,true)
  |none=>(0,0,false)
abbrev whereAV (r:Int×Int×Bool):AV:= .tup [.agg [I r.1,I r.2.1],B r.2.2]
theorem fR_some {l:List (List Int)} {b:Int} {k:Nat} (hk:k<l.length) (h:b∈l.getD k []) (h':∀j,j<k->b∉l.getD j []):(l.findIdx? fun x=>decide (b∈x))=some k:=by
 rw[List.findIdx?_eq_some_iff_getElem]
 refine⟨hk,by simpa[hk] using h,fun j hj=>?_⟩
 have hj':j<l.length:=by omega
 simpa[hj'] using h' j hj
theorem fR_none {l:List (List Int)} {b:Int} (h':∀j,j<l.length->b∉l.getD j []):(l.findIdx? fun x=>decide (b∈x))=none:=by
 rw[List.findIdx?_eq_none_iff]
 intro x hx
 obtain⟨j,hj,rfl⟩:=List.getElem_of_mem hx
 simpa[hj] using h' j hj
theorem take_getD {α:Type} {l:List α} {i:Nat} {d:α} (h:i<l.length):l.take (i+1)=l.take i++[l.getD i d]:=by
 rw[List.take_add_one,List.getElem?_eq_getElem h,List.getD_eq_getElem?_getD,List.getElem?_eq_getElem h];rfl
abbrev plH (p:Pl):Hp:=[(100,some (1, .own 22 1 (krows 3 p.slots))),(101,some (1, .own 22 1 (krows 3 p.bins)))]
abbrev plO (p:Pl):AV:= .agg [.slO 100 1 0 p.slots.length, .slO 101 1 0 p.bins.length]
theorem copy_sat (p:Pl) (h1:0<p.slots.length/\p.slots.length<=1000) (h2:0<p.bins.length/\p.bins.length<=1000) (h3:∀i,i<p.slots.length->(p.slots.getD i []).length<=1000) (h4:∀i,i<p.bins.length->(p.bins.getD i []).length<=1000):
  SatG Tryz.prog tab 51 [] [p.av] (plH p) (plO p):=by
 refine uFN Tryz.func51 Tryz.ntmps51 ?_;intro w e X hC
 repeat refine uA ?_
 refine uW ?_
 refine awp_loopW (fun i:Nat×Nat×Nat=>⟨[(1, .ptO 101 1 0 0 0),(2, .ptO 102 2 0 0 0),(3, .ptO 103 3 0 0 0),(4,I i.2.1)],(103,some (3, .box [nilC i.2.1 (.slO 123 i.2.2 0 i.2.1), .sl [] true]))::(123,nilH i.2.1 (i.2.2, .own 22 1 (krows 3 (p.slots.take i.2.1))))::(101,some (1, .box [RS p.slots,RS p.bins]))::(102,some (2, .box [.sl [] true, .sl [] true]))::[],i.1⟩) (fun i=>i.2.1<=p.slots.length) (fun i=>p.slots.length - i.2.1) (_,0,0) (Nat.zero_le _) (uKF) ?_
 rintro⟨ck,i,g⟩ hi
 simp only at hi
 repeat refine uA ?_
 refine uW ?_;refine condP _ rfl (fun h=>?_) (fun h=>?_)
 ·have hlt:i<p.slots.length:=by omega
  have e1:=take_getD (d:=[]) hlt
  have hrl:=h3 i hlt
  have htl:(p.slots.take i).length=i:=by simp;omega
  generalize e2:p.slots.getD i []=r at*
  by_cases hi0:i=0
  ·subst hi0
   simp only[nilC_z,nilH_z]
   refine uD1 (uI (rows_getD hlt) (uI @e2 @krows_one)) ?_;intro K hK
   refine uH ?_
   refine hK _ ?_;clear hK K
   repeat refine uA ?_
   refine⟨(_,0+1,ck+15),by simp only;omega,by simp only;omega, .of (Nat.le_refl _) (uHF1 (uI @e1 (uI @nilC_s @nilH_s))) uWF⟩
  ·simp only[nilC_p hi0,nilH_p hi0]
   refine uD1 (uI (rows_getD hlt) (uI @e2 @htl)) ?_;intro K hK
   refine uH ?_
   refine hK _ ?_;clear hK K
   repeat refine uA ?_
   refine⟨(_,i+1,g),by simp only;omega,by simp only;omega, .of (Nat.le_refl _) (uHF1 (uI @e1 (uI @nilC_s @nilH_s))) uWF⟩
 ·refine awp_exit ?_
  have hi':i=p.slots.length:=by omega
  subst hi'
  simp only[nilC_p (show p.slots.length≠0 by omega),nilH_p (show p.slots.length≠0 by omega),List.take_length]
  repeat refine uA ?_
  refine uW ?_
  refine awp_loopW (fun i:Nat×Nat×Nat=>⟨[(1, .ptO 101 1 0 0 0),(2, .ptO 102 2 0 0 0),(3, .ptO 103 3 0 0 0),(5,I i.2.1)],(103,some (3, .box [.slO 123 g 0 p.slots.length,nilC i.2.1 (.slO 142 i.2.2 0 i.2.1)]))::(142,nilH i.2.1 (i.2.2, .own 22 1 (krows 3 (p.bins.take i.2.1))))::(123,some (g, .own 22 1 (krows 3 p.slots)))::(101,some (1, .box [RS p.slots,RS p.bins]))::(102,some (2, .box [.sl [] true, .sl [] true]))::[],i.1⟩) (fun i=>i.2.1<=p.bins.length) (fun i=>p.bins.length - i.2.1) (_,0,0) (Nat.zero_le _) (uKF) ?_
  rintro⟨ck,i,g2⟩ hi
  simp only at hi
  repeat refine uA ?_
  refine uW ?_;refine condP _ rfl (fun h=>?_) (fun h=>?_)
  ·have hlt:i<p.bins.length:=by omega
   have e1:=take_getD (d:=[]) hlt
   have hrl:=h4 i hlt
   have htl:(p.bins.take i).length=i:=by simp;omega
   generalize e2:p.bins.getD i []=r at*
   by_cases hi0:i=0
   ·subst hi0
    simp only[nilC_z,nilH_z]
    refine uD1 (uI (rows_getD hlt) (uI @e2 @krows_one)) ?_;intro K hK
    refine uH ?_
    refine hK _ ?_;clear hK K
    repeat refine uA ?_
    refine⟨(_,0+1,ck+15),by simp only;omega,by simp only;omega, .of (Nat.le_refl _) (uHF1 (uI @e1 (uI @nilC_s @nilH_s))) uWF⟩
   ·simp only[nilC_p hi0,nilH_p hi0]
    refine uD1 (uI (rows_getD hlt) (uI @e2 @htl)) ?_;intro K hK
    refine uH ?_
    refine hK _ ?_;clear hK K
    repeat refine uA ?_
    refine⟨(_,i+1,g2),by simp only;omega,by simp only;omega, .of (Nat.le_refl _) (uHF1 (uI @e1 (uI @nilC_s @nilH_s))) uWF⟩
  ·refine awp_exit ?_
   have hi':i=p.bins.length:=by omega
   subst hi'
   simp only[nilC_p (show p.bins.length≠0 by omega),nilH_p (show p.bins.length≠0 by omega),List.take_length]
   repeat refine uA ?_
   refine awp_ret ?_;rw[show Tryz.f51.results.toList=[.cell 2 34] from rfl];(refine retG [(100,1,123,g),(101,1,142,g2)] uRG (by simp) (by simp) (by simp) uTG uTG uTG ?_ ?_;all_goals (first|refine uSG ?_|exact uXG|skip))
theorem fault_sat (fs:List Int) (k:Nat) (hn:fs.length<=1000):SatG Tryz.prog tab 96 [] [IS fs,I k] [] (I (fs.getD k 0)):=by
 refine uFN Tryz.func96 Tryz.ntmps96 ?_;intro w e X hC
 repeat refine uA ?_
 refine uW ?_;refine condP _ rfl (fun h=>?_) (fun h=>?_)
 ·have hlt:k<fs.length:=by omega
  repeat refine uA1 (ints_getD hlt) ?_
  (refine awp_ret (ret1 uRT ?_);try rfl)
 ·repeat refine uA ?_
  (refine awp_ret (ret1 uRT ?_);try rfl)
  rw[List.getD_eq_getElem?_getD,List.getElem?_eq_none (by omega)];rfl
def tgt (s fs:List Int) (k:Nat):Nat:=
 if fs.getD k 0=1\/s.getD (k+1) 0≠0 then k
 else if fs.getD k 0=2/\k+2<s.length/\s.getD (k+2) 0=0 then k+2 else k+1
theorem target_sat (s fs:List Int) (k:Nat) (hn:fs.length<=1000) (hs:s.length<=1000) (hk:k+1<s.length):SatG Tryz.prog tab 95 [] [IS s,IS fs,I k] [] (I (tgt s fs k)):=by
 have e1:(k:Int)+1=((k+1:Nat):Int):=by omega
 have e2:(k:Int)+2=((k+2:Nat):Int):=by omega
 refine uFN Tryz.func95 Tryz.ntmps95 ?_;intro w e X hC
 repeat refine uA ?_
 by_cases c1:fs.getD k 0=1
 ·have d1:decide (fs.getD k 0=1)=true:=decide_eq_true c1
  refine uR ?_;intro K hK
  refine callF uTS ((fault_sat fs k hn)) uTS uTS uTS ?_;refine uS ?_
  first|refine uS1 @d1 ?_|exact uX1 @d1
  refine hK _ ?_;clear hK K
  refine uT ?_
  repeat refine uA ?_
  (refine awp_ret (ret1 uRT ?_);try rfl)
  rw[tgt,if_pos (.inl c1)];rfl
 ·have d1:decide (fs.getD k 0=1)=false:=decide_eq_false c1
  refine uR ?_;intro K hK
  refine callF uTS ((fault_sat fs k hn)) uTS uTS uTS ?_;refine uS ?_
  first|refine uS1 (uI @d1 (uI @e1 (ints_getD hk))) ?_|exact uX1 (uI @d1 (uI @e1 (ints_getD hk)))
  refine uH ?_
  refine hK _ ?_;clear hK K
  refine uW ?_;refine condP _ rfl (fun c2=>?_) (fun c2=>?_)
  ·repeat refine uA ?_
   (refine awp_ret (ret1 uRT ?_);try rfl)
   rw[tgt,if_pos (.inr c2)];rfl
  ·have c2':¬(fs.getD k 0=1\/s.getD (k+1) 0≠0):=fun h=>h.elim c1 c2
   by_cases c3:fs.getD k 0=2
   ·have d3:decide (fs.getD k 0=2)=true:=decide_eq_true c3
    by_cases c4:k+2<s.length
    ·have d4:decide (((k+2:Nat):Int)<s.length)=true:=decide_eq_true (by omega)
     refine uR ?_;intro K hK
     refine callF uTS ((fault_sat fs k hn)) uTS uTS uTS ?_;refine uS ?_
     first|refine uS1 (uI @d3 (uI @e2 (uI @d4 (ints_getD c4)))) ?_|exact uX1 (uI @d3 (uI @e2 (uI @d4 (ints_getD c4))))
     refine uH ?_
     refine hK _ ?_;clear hK K
     refine uW ?_;refine condP _ rfl (fun c5=>?_) (fun c5=>?_)
     ·repeat refine uA ?_
      (refine awp_ret (ret1 uRT ?_);try rfl)
      rw[tgt,if_neg c2',if_pos ⟨c3,c4,c5⟩];rfl
     ·repeat refine uA ?_
      (refine awp_ret (ret1 uRT ?_);try rfl)
      rw[tgt,if_neg c2',if_neg (fun h=>c5 h.2.2)];rfl
    ·have d4:decide (((k+2:Nat):Int)<s.length)=false:=decide_eq_false (by omega)
     refine uR ?_;intro K hK
     refine callF uTS ((fault_sat fs k hn)) uTS uTS uTS ?_;refine uS ?_
     first|refine uS1 (uI @d3 (uI @e2 @d4)) ?_|exact uX1 (uI @d3 (uI @e2 @d4))
     refine uH ?_
     refine hK _ ?_;clear hK K
     refine uF ?_
     repeat refine uA ?_
     (refine awp_ret (ret1 uRT ?_);try rfl)
     rw[tgt,if_neg c2',if_neg (fun h=>c4 h.2.1)];rfl
   ·have d3:decide (fs.getD k 0=2)=false:=decide_eq_false c3
    refine uR ?_;intro K hK
    refine callF uTS ((fault_sat fs k hn)) uTS uTS uTS ?_;refine uS ?_
    first|refine uS1 @d3 ?_|exact uX1 @d3
    refine hK _ ?_;clear hK K
    refine uF ?_
    repeat refine uA ?_
    (refine awp_ret (ret1 uRT ?_);try rfl)
    rw[tgt,if_neg c2',if_neg (fun h=>c3 h.1)];rfl
def advS (s fs:List Int) (op:Bool) (k:Nat) (o:List Int×Int):List Int×Int:=
 if s.getD k 0=0 then o
 else if k+1<s.length then(o.1.set (tgt s fs k) (s.getD k 0),o.2)
 else if op=true/\fs.getD k 0≠1 then(o.1,s.getD k 0)
 else(o.1.set k (s.getD k 0),o.2)
def advR (s fs:List Int) (op:Bool):Nat->List Int×Int
 |0=>(List.replicate s.length 0,0)
 |k+1=>advS s fs op k (advR s fs op k)
theorem advR_len (s fs:List Int) (op:Bool):∀k,(advR s fs op k).1.length=s.length
 |0=>by simp[advR]
 |k+1=>by
  have:=advR_len s fs op k
  rw[advR,advS]
  split
  ·exact this
  ·split
   ·simpa using this
   ·split
    ·exact this
    ·simpa using this
def adv (s fs:List Int) (op:Bool):List Int×Int:=advR s fs op s.length
theorem tgt_lt {s fs:List Int} {k:Nat} (h:k+1<s.length):tgt s fs k<s.length:=by
 unfold tgt;split
 ·omega
 ·split<;>omega
theorem advance_sat (s fs:List Int) (op:Bool) (hn:fs.length<=1000) (hs:s.length<=1000):
  SatG Tryz.prog tab 52 [] [IS s,IS fs,B op] [(100,some (1, .own 3 1 (ints (adv s fs op).1)))] (.tup [.slO 100 1 0 s.length,I (adv s fs op).2]):=by
 refine uFN Tryz.func52 Tryz.ntmps52 ?_;intro w e X hC
 repeat refine uA ?_
 refine uW ?_
 refine awp_loopW (fun i:Nat×Nat×Nat=>⟨[(0,IS s),(1,IS fs),(2,B op),(8, .slO 113 i.2.2 0 s.length),(9,I (advR s fs op i.2.1).2),(10,I i.2.1)],(113,some (i.2.2, .own 3 1 (ints (advR s fs op i.2.1).1)))::[],i.1⟩) (fun i=>i.2.1<=s.length) (fun i=>s.length - i.2.1) (_,0,_) (Nat.zero_le _) (uKF) ?_
 rintro⟨ck,i,g⟩ hi
 simp only at hi
 have hal:=advR_len s fs op i
 have e1:advR s fs op (i+1)=advS s fs op i (advR s fs op i):=rfl
 generalize e9:advR s fs op i=o at*
 repeat refine uA ?_
 refine uW ?_;refine condP _ rfl (fun h=>?_) (fun h=>?_)
 ·have hlt:i<s.length:=by omega
  by_cases c1:s.getD i 0=0
  ·have e2:advS s fs op i o=o:=if_pos c1
   have d1:decide (s.getD i 0=0)=true:=decide_eq_true c1
   repeat first|refine uC ?_|refine uA1 (uI (ints_getD hlt) @d1) ?_
   refine uW ?_
   refine⟨(_,i+1,g),by simp only;omega,by simp only;omega, .of (Nat.le_refl _) (uHF1 (uI @e1 @e2)) (uWF1 (uI @e1 @e2))⟩
  ·have d1:decide (s.getD i 0=0)=false:=decide_eq_false c1
   by_cases c2:i+1<s.length
   ·have e2:advS s fs op i o=(o.1.set (tgt s fs i) (s.getD i 0),o.2):=by rw[advS,if_neg c1,if_pos c2]
    have d2:decide ((i:Int)<(s.length:Int) - 1)=true:=decide_eq_true (by omega)
    have ht:=tgt_lt (fs:=fs) c2
    repeat first|refine uC ?_|refine uA1 (uI (ints_getD hlt) (uI @d1 @d2)) ?_
    refine uD ?_;intro K hK
    refine callF uTS ((target_sat s fs i hn hs c2)) uTS uTS uTS ?_;refine uS ?_
    first|refine uS1 (uI (ints_getD hlt) @hal) ?_|exact uX1 (uI (ints_getD hlt) @hal)
    refine uH ?_
    refine hK _ ?_;clear hK K
    repeat first|refine uC ?_|refine uA ?_
    refine uW ?_
    refine⟨(_,i+1,g),by simp only;omega,by simp only;omega, .of (Nat.le_refl _) (uHF1 (uI @e1 @e2)) (uWF1 (uI @e1 @e2))⟩
   ·have d2:decide ((i:Int)<(s.length:Int) - 1)=false:=decide_eq_false (by omega)
    cases op with
    |false=>
     have e2:advS s fs false i o=(o.1.set i (s.getD i 0),o.2):=by rw[advS,if_neg c1,if_neg c2,if_neg (by simp)]
     repeat first|refine uC ?_|refine uA1 (uI (ints_getD hlt) (uI @d1 (uI @d2 @hal))) ?_
     refine uW ?_
     refine⟨(_,i+1,g),by simp only;omega,by simp only;omega, .of (Nat.le_refl _) (uHF1 (uI @e1 @e2)) (uWF1 (uI @e1 @e2))⟩
    |true=>
     by_cases c3:fs.getD i 0=1
     ·have e2:advS s fs true i o=(o.1.set i (s.getD i 0),o.2):=by rw[advS,if_neg c1,if_neg c2,if_neg (fun h=>h.2 c3)]
      have d3:decide (¬fs.getD i 0=1)=false:=decide_eq_false (fun h=>h c3)
      repeat first|refine uC ?_|refine uA1 (uI (ints_getD hlt) (uI @d1 @d2)) ?_
      refine uR ?_;intro K hK
      refine callF uTS ((fault_sat fs i hn)) uTS uTS uTS ?_;refine uS ?_
      first|refine uS1 @d3 ?_|exact uX1 @d3
      refine hK _ ?_;clear hK K
      repeat first|refine uC ?_|refine uA1 (uI (ints_getD hlt) @hal) ?_
      refine uW ?_
      refine⟨(_,i+1,g),by simp only;omega,by simp only;omega, .of (Nat.le_refl _) (uHF1 (uI @e1 @e2)) (uWF1 (uI @e1 @e2))⟩
     ·have e2:advS s fs true i o=(o.1,s.getD i 0):=by rw[advS,if_neg c1,if_neg c2,if_pos ⟨rfl,c3⟩]
      have d3:decide (¬fs.getD i 0=1)=true:=decide_eq_true c3
      repeat first|refine uC ?_|refine uA1 (uI (ints_getD hlt) (uI @d1 @d2)) ?_
      refine uR ?_;intro K hK
      refine callF uTS ((fault_sat fs i hn)) uTS uTS uTS ?_;refine uS ?_
      first|refine uS1 @d3 ?_|exact uX1 @d3
      refine hK _ ?_;clear hK K
      repeat first|refine uC ?_|refine uA1 (uI (ints_getD hlt) @hal) ?_
      refine uW ?_
      refine⟨(_,i+1,g),by simp only;omega,by simp only;omega, .of (Nat.le_refl _) (uHF1 (uI @e1 @e2)) (uWF1 (uI @e1 @e2))⟩
 ·refine awp_exit ?_
  have hi':i=s.length:=by omega
  subst hi'
  have e2:adv s fs op=o:=e9
  repeat refine uA ?_
  rw[e2]
  refine awp_ret ?_;rw[show Tryz.f52.results.toList=[.tmp 6, .tmp 7] from rfl];(refine retG [(100,1,113,g)] uRG (by simp) (by simp) (by simp) uTG uTG uTG ?_ ?_;all_goals (first|refine uSG ?_|exact uXG|skip))
def atS (fs:List T3) (n:Int) (i:Nat) (o:List Int):List Int:=if(fs.getD i default).b=n then o.set (fs.getD i default).c.toNat (fs.getD i default).a else o
def atL (fs:List T3) (n:Int) (ln:Nat):Nat->List Int
 |0=>List.replicate ln 0
 |i+1=>atS fs n i (atL fs n ln i)
theorem atL_length (fs:List T3) (n:Int) (ln:Nat):∀i,(atL fs n ln i).length=ln
 |0=>by simp[atL]
 |i+1=>by rw[atL,atS];split<;>simp[atL_length fs n ln i]
def atF (fs:List T3) (n:Int) (ln:Nat):List Int:=atL fs n ln fs.length
theorem at_sat (y:Ly) (fs:List T3) (n:Nat) (hn:n<y.nodes.length) (hy:y.nodes.length<=1000) (hf:fs.length<=1000) (hl:0<=(y.nodes.getD n default).ln/\(y.nodes.getD n default).ln<=1000)
  (hv:∀i,i<fs.length->(fs.getD i default).b=n->0<=(fs.getD i default).c/\(fs.getD i default).c<(y.nodes.getD n default).ln):
  SatG Tryz.prog tab 53 [] [y.av, .sl (t3s fs) false,I n] [] (IS (atF fs n (y.nodes.getD n default).ln.toNat)):=by
 generalize e2:y.nodes.getD n default=x at*
 refine uFN Tryz.func53 Tryz.ntmps53 ?_;intro w e X hC
 repeat refine uA1 (uI (nds_getD hn) @e2) ?_
 refine uW ?_
 refine awp_loopW (fun i:Nat×Nat×Nat=>⟨[(1, .sl (t3s fs) false),(2,I n),(3, .ptO 103 1 0 0 0),(7, .slO 115 i.2.2 0 x.ln.toNat),(8,I i.2.1)],(115,some (i.2.2, .own 3 1 (ints (atL fs n x.ln.toNat i.2.1))))::(103,some (1, .box [.sl (nds y.nodes) false, .sl (t3s y.devs) false]))::[],i.1⟩) (fun i=>i.2.1<=fs.length) (fun i=>fs.length - i.2.1) (_,0,_) (Nat.zero_le _) (uKF) ?_
 rintro⟨ck,i,g⟩ hi
 simp only at hi
 have hal:=atL_length fs n x.ln.toNat i
 have e1:atL fs n x.ln.toNat (i+1)=atS fs n i (atL fs n x.ln.toNat i):=rfl
 generalize e9:atL fs n x.ln.toNat i=o at*
 repeat refine uA ?_
 refine uW ?_;refine condP _ rfl (fun h=>?_) (fun h=>?_)
 ·have hlt:i<fs.length:=by omega
  have hvi:=hv i hlt
  rw[atS] at e1
  generalize e3:fs.getD i default=f at*
  repeat refine uA1 (uI (t3s_getD hlt) @e3) ?_
  refine uW ?_;refine condP _ rfl (fun c1=>?_) (fun c1=>?_)
  ·rw[if_pos c1] at e1
   have hv2:=hvi c1
   have hv3:f.c.toNat<x.ln.toNat:=by omega
   refine uD1 (uI (t3s_getD hlt) (uI @e3 @hal)) ?_;intro K hK
   refine uH ?_
   refine hK _ ?_;clear hK K
   repeat refine uA ?_
   refine⟨(_,i+1,g),by simp only;omega,by simp only;omega, .of (Nat.le_refl _) (uHF1 @e1) uWF⟩
  ·rw[if_neg c1] at e1
   repeat refine uA ?_
   refine⟨(_,i+1,g),by simp only;omega,by simp only;omega, .of (Nat.le_refl _) (uHF1 @e1) uWF⟩
 ·refine awp_exit ?_
  have hi':i=fs.length:=by omega
  subst hi'
  repeat refine uA ?_
  refine awp_ret ?_;refine ret1 (by simp only[go_sem,Nat.reduceAdd,Nat.reduceSub,Nat.reduceMul,Nat.reduceLT,Nat.reduceEqDiff,Nat.reduceBEq,Nat.reduceLeDiff,Int.reduceToNat,↓reduceIte,Int.reduceEq,Int.reduceLT,Int.reduceLE,Int.reduceAdd,Int.reduceSub,Int.reduceNeg,reduceCtorEq,hal]<;>trivial) ?_
  simp only[go_sem,Nat.reduceAdd,Nat.reduceSub,Nat.reduceMul,Nat.reduceLT,Nat.reduceEqDiff,Nat.reduceBEq,Nat.reduceLeDiff,Int.reduceToNat,↓reduceIte,Int.reduceEq,Int.reduceLT,Int.reduceLE,Int.reduceAdd,Int.reduceSub,Int.reduceNeg,reduceCtorEq,<-e9];rfl
theorem drop_sat (l:List Int) (x:Int) (hn:l.length<=1000):
  SatG Tryz.prog tab 54 [] [IS l,I x] [(100,some (1, .own 3 1 (ints (rest l x))))] (.slO 100 1 0 (rest l x).length):=by
 refine uFN Tryz.func54 Tryz.ntmps54 ?_;intro w e X hC
 repeat refine uA ?_
 refine uW ?_
 refine awp_loopW (fun i:Nat×Nat=>⟨[(0,IS l),(1,I x),(5, .slO 105 2 0 (rest (l.take i.2) x).length),(6,I i.2)],(105,some (2, .own 3 1 (ints (rest (l.take i.2) x))))::[],i.1⟩) (fun i=>i.2<=l.length) (fun i=>l.length - i.2) (_,0) (Nat.zero_le _) (uKF) ?_
 rintro⟨ck,i⟩ hi
 simp only at hi
 repeat refine uA ?_
 refine uW ?_;refine condP _ rfl (fun h=>?_) (fun h=>?_)
 ·have hlt:i<l.length:=by omega
  have e1:=rest_succ (x:=x) hlt
  have hrl:(rest (l.take i) x).length<=l.length:=Nat.le_trans (List.length_filter_le _ _) (by simp;omega)
  repeat refine uA1 (ints_getD hlt) ?_
  refine uW ?_;refine condP _ rfl (fun e'=>?_) (fun e'=>?_)
  ·rw[if_pos e'] at e1
   repeat refine uA1 (ints_getD hlt) ?_
   refine⟨(_,i+1),by simp only;omega,by simp only;omega, .of (Nat.le_refl _) (uHF1 @e1) (uWF1 @e1)⟩
  ·rw[if_neg e',List.append_nil] at e1
   repeat refine uA ?_
   refine⟨(_,i+1),by simp only;omega,by simp only;omega, .of (Nat.le_refl _) (uHF1 @e1) (uWF1 @e1)⟩
 ·refine awp_exit ?_
  have hi':i=l.length:=by omega
  subst hi'
  rw[List.take_length]
  repeat refine uA ?_
  refine awp_ret ?_;rw[show Tryz.f54.results.toList=[.tmp 4] from rfl];(refine retG [(100,1,105,2)] uRG (by simp) (by simp) (by simp) uTG uTG uTG ?_ ?_;all_goals (first|refine uSG ?_|exact uXG|skip))
def putL (l:List Int) (x:Int):List Int:=l.takeWhile (fun y=>decide (y<x))++[x]++l.dropWhile (fun y=>decide (y<x))
theorem putL_of:∀{l:List Int} {x:Int} {k:Nat},k<=l.length->(∀j,j<k->l.getD j 0<x)->(k=l.length\/¬l.getD k 0<x)->putL l x=l.take k++[x]++l.drop k
 |[],x,k,h,_,_=>by
  have:k=0:=by simpa using h
  subst this;simp[putL]
 |y::l,x,0,_,_,h=>by
  have:¬y<x:=by rcases h with h|h<;>simpa using h
  simp[putL,this]
 |y::l,x,k+1,h,h1,h2=>by
  have hy:y<x:=by simpa using h1 0 (by omega)
  have ih:=putL_of (l:=l) (x:=x) (k:=k) (by simpa using h) (fun j hj=>by simpa using h1 (j+1) (by omega)) (by simpa using h2)
  simp only[putL] at ih
  simp only[putL,List.takeWhile_cons,List.dropWhile_cons,hy,decide_true,if_true,List.take_succ_cons,List.drop_succ_cons,List.cons_append]
  rw[ih]
theorem putL_length (l:List Int) (x:Int):(putL l x).length=l.length+1:=by
 have:(l.takeWhile (fun y=>decide (y<x))++l.dropWhile (fun y=>decide (y<x))).length=l.length:=by rw[List.takeWhile_append_dropWhile]
 rw[List.length_append] at this
 simp[putL];omega
theorem put_sat (l:List Int) (x:Int) (hn:l.length<=1000):
  SatG Tryz.prog tab 55 [] [IS l,I x] [(100,some (1, .own 3 1 (ints (putL l x))))] (.slO 100 1 0 (putL l x).length):=by
 refine uFN Tryz.func55 Tryz.ntmps55 ?_;intro w e X hC
 iterate 2 refine uA ?_
 refine awp_seq ?_
 refine awp_merge (fun q:Nat×Nat=>⟨[(0,IS l),(1,I x),(5,I q.2)],[],q.1⟩) (fun q=>q.2<=l.length/\putL l x=l.take q.2++[x]++l.drop q.2) ?_ ?_
 rotate_left
 ·rintro⟨ck,i⟩ ⟨hi,e1⟩
  simp only at hi e1
  have htl:(l.take i).length=i:=by simp;omega
  have hdl:(l.drop i).length=l.length - i:=by simp
  have hpl:=putL_length l x
  rw[e1] at hpl ⊢
  simp only[List.length_append,List.length_singleton,htl,hdl]
  repeat refine uA1 (uI @ints_take (uI @ints_drop (uI @htl @hdl))) ?_
  refine awp_ret ?_;rw[show Tryz.f55.results.toList=[.tmp 4] from rfl];(refine retG [(100,1,121,ck)] uRG (by simp) (by simp) (by simp) uTG uTG uTG ?_ ?_;all_goals (first|refine uSG ?_|exact uXG|skip))
  simp[ints]
 refine uW ?_
 refine awp_loopW (fun i:Nat×Nat=>⟨[(0,IS l),(1,I x),(5,I i.2)],[],i.1⟩) (fun i=>i.2<=l.length/\∀j,j<i.2->l.getD j 0<x) (fun i=>l.length - i.2) (_,0) ⟨Nat.zero_le _,fun j hj=>absurd hj (Nat.not_lt_zero _)⟩ (uKF) ?_
 rintro⟨ck,i⟩ ⟨hi,hj⟩
 simp only at hi hj
 by_cases c1:i<l.length
 ·have d1:decide ((i:Int)<l.length)=true:=decide_eq_true (by omega)
  refine uR1 (uI @d1 (ints_getD c1)) ?_;intro K hK
  refine uH ?_
  refine hK _ ?_;clear hK K
  refine uW ?_;refine condP _ rfl (fun c2=>?_) (fun c2=>?_)
  ·repeat refine uA ?_
   refine⟨(_,i+1),⟨by simp only;omega,fun j hj'=>?_⟩,by simp only;omega,uKF⟩
   by_cases hji:j=i
   ·subst hji;exact c2
   ·exact hj j (by simp only at hj';omega)
  ·refine awp_exit ?_
   refine uW ?_
   refine⟨(_,i),⟨hi,putL_of hi hj (.inr c2)⟩,uKF⟩
 ·have d1:decide ((i:Int)<l.length)=false:=decide_eq_false (by omega)
  refine uR1 @d1 ?_;intro K hK
  refine hK _ ?_;clear hK K
  refine uF ?_
  refine awp_exit ?_
  refine uW ?_
  refine⟨(_,i),⟨hi,putL_of hi hj (.inl (by omega))⟩,uKF⟩
def cmdOk (x:Nd) (c:Int):Bool:=
 if x.kd=7 then decide (0<=c)&&decide (c<=40)
 else if isStrip x.kd=false then decide (c=0)
 else if c=-1 then decide (¬x.kd=5)
 else decide (0<=c)&&decide (c<x.ex.length)
theorem command_sat (x:Nd) (c:Int) (hx:x.ex.length<=1000):SatG Tryz.prog tab 136 [] [x.av,I c] [] (B (cmdOk x c)):=by
 refine uFN Tryz.func136 Tryz.ntmps136 ?_;intro w e X hC
 refine uA ?_
 by_cases c1:x.kd=7
 ·have d1:decide (x.kd=7)=true:=decide_eq_true c1
  have e1:cmdOk x c=(decide (0<=c)&&decide (c<=40)):=if_pos c1
  by_cases c2:0<=c
  ·have d2:decide (0<=c)=true:=decide_eq_true c2
   repeat first|refine uC ?_|refine uA1 (uI @d1 @d2) ?_
   (refine awp_ret (ret1 uRT ?_);try rfl)
   first|refine uS1 (uI @e1 (uI @d2 @Bool.true_and)) ?_|exact uX1 (uI @e1 (uI @d2 @Bool.true_and))
  ·have d2:decide (0<=c)=false:=decide_eq_false c2
   repeat first|refine uC ?_|refine uA1 (uI @d1 @d2) ?_
   (refine awp_ret (ret1 uRT ?_);try rfl)
   first|refine uS1 (uI @e1 (uI @d2 @Bool.false_and)) ?_|exact uX1 (uI @e1 (uI @d2 @Bool.false_and))
 ·have d1:decide (x.kd=7)=false:=decide_eq_false c1
  repeat first|refine uC ?_|refine uA1 @d1 ?_
  refine uR ?_;intro K hK
  refine callF uTS ((strip7_sat x.kd)) uTS uTS uTS ?_;refine uS ?_
  cases c2:isStrip x.kd with
  |false=>
   have e1:cmdOk x c=decide (c=0):=by rw[cmdOk,if_neg c1,if_pos c2]
   first|refine uS ?_|exact uX
   refine hK _ ?_;clear hK K
   repeat first|refine uC ?_|refine uA ?_
   (refine awp_ret (ret1 uRT ?_);try rfl)
   first|refine uS1 @e1 ?_|exact uX1 @e1
  |true=>
   first|refine uS ?_|exact uX
   refine hK _ ?_;clear hK K
   by_cases c3:c=-1
   ·have d3:decide (c=-1)=true:=decide_eq_true c3
    have e1:cmdOk x c=decide (¬x.kd=5):=by rw[cmdOk,if_neg c1,if_neg (by simp[c2]),if_pos c3]
    repeat first|refine uC ?_|refine uA1 @d3 ?_
    (refine awp_ret (ret1 uRT ?_);try rfl)
    first|refine uS1 @e1 ?_|exact uX1 @e1
   ·have d3:decide (c=-1)=false:=decide_eq_false c3
    have e1:cmdOk x c=(decide (0<=c)&&decide (c<x.ex.length)):=by rw[cmdOk,if_neg c1,if_neg (by simp[c2]),if_neg c3]
    by_cases c4:0<=c
    ·have d4:decide (0<=c)=true:=decide_eq_true c4
     repeat first|refine uC ?_|refine uA1 (uI @d3 @d4) ?_
     (refine awp_ret (ret1 uRT ?_);try rfl)
     first|refine uS1 (uI @e1 (uI @d4 @Bool.true_and)) ?_|exact uX1 (uI @e1 (uI @d4 @Bool.true_and))
    ·have d4:decide (0<=c)=false:=decide_eq_false c4
     repeat first|refine uC ?_|refine uA1 (uI @d3 @d4) ?_
     (refine awp_ret (ret1 uRT ?_);try rfl)
     first|refine uS1 (uI @e1 (uI @d4 @Bool.false_and)) ?_|exact uX1 (uI @e1 (uI @d4 @Bool.false_and))
def wantR (x:Nd) (c:Int):Int:=if x.kd=7 then 0 else c
theorem wants_sat (y:Ly) (cs:List Int) (n:Nat) (hn:n<y.nodes.length) (hc:n<cs.length) (hy:y.nodes.length<=1000) (hcs:cs.length<=1000):
  SatG Tryz.prog tab 94 [] [y.av,IS cs,I n] [] (I (wantR (y.nodes.getD n default) (cs.getD n 0))):=by
 refine uFN Tryz.func94 Tryz.ntmps94 ?_;intro w e X hC
 repeat refine uA1 (nds_getD hn) ?_
 refine uW ?_;refine condP _ rfl (fun c1=>?_) (fun c1=>?_)
 ·repeat refine uA ?_
  (refine awp_ret (ret1 uRT ?_);try rfl)
  rw[wantR,if_pos c1];rfl
 ·repeat refine uA1 (ints_getD hc) ?_
  (refine awp_ret (ret1 uRT ?_);try rfl)
  rw[wantR,if_neg c1];rfl
structure FitF (xs:List Nd) (fs:List T3):Prop where
 len:fs.length<=1000
 ok:∀i,i<fs.length->∀n,n<xs.length->(fs.getD i default).b=n->0<=(fs.getD i default).c/\(fs.getD i default).c<(xs.getD n default).ln
structure FitP (xs:List Nd) (p:Pl):Prop where
 xl:xs.length<=1000
 sl:p.slots.length=xs.length
 bl:p.bins.length=xs.length
 row:∀n,n<xs.length->(p.slots.getD n []).length=(xs.getD n default).ln.toNat
 bin:∀n,n<xs.length->(p.bins.getD n []).length<=500
 ln:∀n,n<xs.length->0<=(xs.getD n default).ln/\(xs.getD n default).ln<=500
 st:∀n,n<xs.length->isStrip (xs.getD n default).kd=true->1<=(xs.getD n default).ln
 ex:∀n,n<xs.length->(xs.getD n default).ex.length<=500
def lastR (x:Nd) (sl bin:List Int) (c:Int) (fs:List T3) (n:Nat):Int:=
 if x.kd=7 then(if c∈bin then c else 0)
 else if isStrip x.kd=false\/c=-1\/(atF fs n x.ln.toNat).getD (x.ln.toNat - 1) 0=1 then 0
 else sl.getD (x.ln.toNat - 1) 0
theorem atF_length (fs:List T3) (n:Int) (ln:Nat):(atF fs n ln).length=ln:=atL_length fs n ln _
theorem last_sat (y:Ly) (p:Pl) (cs:List Int) (fs:List T3) (n:Nat) (hp:FitP y.nodes p) (hf:FitF y.nodes fs) (hn:n<y.nodes.length) (hc:cs.length=y.nodes.length):
  SatG Tryz.prog tab 93 [] [y.av,p.av,IS cs, .sl (t3s fs) false,I n] [] (I (lastR (y.nodes.getD n default) (p.slots.getD n []) (p.bins.getD n []) (cs.getD n 0) fs n)):=by
 have hxl:=hp.xl
 have hnc:n<cs.length:=by omega
 have hns:n<p.slots.length:=by rw[hp.sl];exact hn
 have hnb:n<p.bins.length:=by rw[hp.bl];exact hn
 have hbl:=hp.bin n hn
 have hrl:=hp.row n hn
 have hln:=hp.ln n hn
 have hst:=hp.st n hn
 have hfl:=hf.len
 have hat:=at_sat y fs n hn hxl hf.len (by omega) (fun i hi hb=>hf.ok i hi n hn hb)
 have hal:=atF_length fs n (y.nodes.getD n default).ln.toNat
 generalize e1:y.nodes.getD n default=x at*
 generalize e2:p.slots.getD n []=sl at*
 generalize e3:p.bins.getD n []=bin at*
 generalize e4:cs.getD n 0=c at*
 refine uFN Tryz.func93 Tryz.ntmps93 ?_;intro w e X hC
 iterate 2 refine uA1 (uI (nds_getD hn) @e1) ?_
 by_cases c1:x.kd=7
 ·have d1:decide (x.kd=7)=true:=decide_eq_true c1
  repeat first|refine uC ?_|refine uA1 @d1 ?_
  refine uD1 (uI (rows_getD hnb) (uI (ints_getD hnc) (uI @e3 @e4))) ?_;intro K hK
  refine uH ?_
  refine callF uTS ((in_sat bin c (by omega))) uTS uTS uTS ?_;refine uS ?_
  refine uH ?_
  refine hK _ ?_;clear hK K
  refine uW ?_;refine condP _ rfl (fun c2=>?_) (fun c2=>?_)
  ·repeat refine uA1 (uI (ints_getD hnc) @e4) ?_
   (refine awp_ret (ret1 uRT ?_);try rfl)
   simp only[go_sem,Nat.reduceAdd,Nat.reduceSub,Nat.reduceMul,Nat.reduceLT,Nat.reduceEqDiff,Nat.reduceBEq,Nat.reduceLeDiff,Int.reduceToNat,↓reduceIte,Int.reduceEq,Int.reduceLT,Int.reduceLE,Int.reduceAdd,Int.reduceSub,Int.reduceNeg,reduceCtorEq,lastR,if_pos c1,if_pos c2]
  ·repeat refine uA ?_
   (refine awp_ret (ret1 uRT ?_);try rfl)
   simp only[go_sem,Nat.reduceAdd,Nat.reduceSub,Nat.reduceMul,Nat.reduceLT,Nat.reduceEqDiff,Nat.reduceBEq,Nat.reduceLeDiff,Int.reduceToNat,↓reduceIte,Int.reduceEq,Int.reduceLT,Int.reduceLE,Int.reduceAdd,Int.reduceSub,Int.reduceNeg,reduceCtorEq,lastR,if_pos c1,if_neg c2]
 ·have d1:decide (x.kd=7)=false:=decide_eq_false c1
  repeat first|refine uC ?_|refine uA1 @d1 ?_
  cases c2:isStrip x.kd with
  |false=>
   refine uD ?_;intro K hK
   refine callF uTS ((strip7_sat x.kd)) uTS uTS uTS ?_;refine uS ?_
   first|refine uS1 @c2 ?_|exact uX1 @c2
   refine uH ?_
   refine hK _ ?_;clear hK K
   repeat first|refine uC ?_|refine uA ?_
   (refine awp_ret (ret1 uRT ?_);try rfl)
   simp only[go_sem,Nat.reduceAdd,Nat.reduceSub,Nat.reduceMul,Nat.reduceLT,Nat.reduceEqDiff,Nat.reduceBEq,Nat.reduceLeDiff,Int.reduceToNat,↓reduceIte,Int.reduceEq,Int.reduceLT,Int.reduceLE,Int.reduceAdd,Int.reduceSub,Int.reduceNeg,reduceCtorEq,lastR,if_neg c1,c2,true_or]
  |true=>
   have hst1:=hst c2
   by_cases c3:c=-1
   ·have d3:decide (c=-1)=true:=decide_eq_true c3
    refine uD ?_;intro K hK
    refine callF uTS ((strip7_sat x.kd)) uTS uTS uTS ?_;refine uS ?_
    first|refine uS1 (uI @c2 (uI (ints_getD hnc) (uI @e4 @d3))) ?_|exact uX1 (uI @c2 (uI (ints_getD hnc) (uI @e4 @d3)))
    refine uH ?_
    refine hK _ ?_;clear hK K
    repeat first|refine uC ?_|refine uA ?_
    (refine awp_ret (ret1 uRT ?_);try rfl)
    simp only[go_sem,Nat.reduceAdd,Nat.reduceSub,Nat.reduceMul,Nat.reduceLT,Nat.reduceEqDiff,Nat.reduceBEq,Nat.reduceLeDiff,Int.reduceToNat,↓reduceIte,Int.reduceEq,Int.reduceLT,Int.reduceLE,Int.reduceAdd,Int.reduceSub,Int.reduceNeg,reduceCtorEq,lastR,if_neg c1,c3,true_or,or_true]
   ·have d3:decide (c=-1)=false:=decide_eq_false c3
    have hl1:x.ln.toNat - 1<(atF fs n x.ln.toNat).length:=by omega
    have hl2:x.ln.toNat - 1<sl.length:=by omega
    have hl3:(x.ln - 1).toNat=x.ln.toNat - 1:=by omega
    refine uD ?_;intro K hK
    refine callF uTS ((strip7_sat x.kd)) uTS uTS uTS ?_;refine uS ?_
    first|refine uS1 (uI @c2 (uI (ints_getD hnc) (uI @e4 @d3))) ?_|exact uX1 (uI @c2 (uI (ints_getD hnc) (uI @e4 @d3)))
    refine uH ?_
    refine callP uTS (hat) uTS uTS uTS ?_;refine uS ?_
    first|refine uS1 (uI @hl3 (ints_getD hl1)) ?_|exact uX1 (uI @hl3 (ints_getD hl1))
    refine uH ?_
    refine hK _ ?_;clear hK K
    have hnn:¬(isStrip x.kd=false\/c=-1):=by rw[c2];simp[c3]
    refine uW ?_;refine condP _ rfl (fun c4=>?_) (fun c4=>?_)
    ·repeat refine uA ?_
     (refine awp_ret (ret1 uRT ?_);try rfl)
     rw[lastR,if_neg c1,if_pos (.inr (.inr c4))];rfl
    ·have hn4:¬(isStrip x.kd=false\/c=-1\/(atF fs n x.ln.toNat).getD (x.ln.toNat - 1) 0=1):=fun h=>h.elim (fun h=>hnn (.inl h)) (fun h=>h.elim (fun h=>hnn (.inr h)) c4)
     have hl4:x.ln.toNat - 1<(p.slots.getD n []).length:=by rw[e2];exact hl2
     refine uK1 (uI (rows_getD hns) (uI @e2 (uI @hl3 (ints_getD hl2)))) ?_
     (refine awp_ret (ret1 uRT ?_);try rfl)
     rw[lastR,if_neg c1,if_neg hn4];rfl
def fltE (xs:List Nd) (f:T3):Int:=
 if f.a≠1/\f.a≠2 then 4
 else if f.b<0\/(xs.length:Int)<=f.b\/f.c<0\/(xs.getD f.b.toNat default).ln<=f.c then 1 else 0
def firstE (xs:List Nd):List T3->Int
 |[]=>0
 |f::r=>if fltE xs f≠0 then fltE xs f else firstE xs r
def cmdsOk (xs:List Nd) (cs:List Int):Bool:=(List.range cs.length).all fun i=>cmdOk (xs.getD i default) (cs.getD i 0)
def dupF (fs:List T3):Bool:=(List.range fs.length).any fun i=>(List.range i).any fun k=>decide ((fs.getD i default).b=(fs.getD k default).b)&&decide ((fs.getD i default).c=(fs.getD k default).c)
def possR (xs:List Nd) (cs:List Int) (fs:List T3):Int:=
 if cs.length≠xs.length then 1
 else if cmdsOk xs cs=false then 1
 else if 4<fs.length then 2
 else if firstE xs fs≠0 then firstE xs fs
 else if dupF fs=true then 5 else 0
theorem firstE_drop {xs:List Nd}:∀{fs:List T3} {i:Nat},i<fs.length->firstE xs (fs.drop i)=if fltE xs (fs.getD i default)≠0 then fltE xs (fs.getD i default) else firstE xs (fs.drop (i+1))
 |[],i,h=>by simp at h
 |f::r,0,_=>by simp[firstE]
 |f::r,i+1,h=>by
  have:=firstE_drop (xs:=xs) (fs:=r) (i:=i) (by simpa using h)
  simpa using this
theorem possible_sat (y:Ly) (cs:List Int) (fs:List T3) (hy:y.nodes.length<=1000) (hcs:cs.length<=1000) (hfs:fs.length<=1000) (hex:∀n,n<y.nodes.length->(y.nodes.getD n default).ex.length<=500):
  SatG Tryz.prog tab 90 [] [y.av,IS cs, .sl (t3s fs) false] [] (I (possR y.nodes cs fs)):=by
 refine uFN Tryz.func90 Tryz.ntmps90 ?_;intro w e X hC
 repeat refine uA ?_
 refine uW ?_;refine condP _ rfl (fun c1=>?_) (fun c1=>?_)
 ·repeat refine uA ?_
  (refine awp_ret (ret1 uRT ?_);try rfl)
  rw[possR,if_pos (by omega)];rfl
 ·have c1':¬(cs.length≠y.nodes.length):=by omega
  repeat refine uA ?_
  refine uW ?_
  refine awp_loopW (fun i:Nat×Nat=>⟨[(1,IS cs),(2, .sl (t3s fs) false),(3, .ptO 103 1 0 0 0),(7,I i.2)],(103,some (1, .box [.sl (nds y.nodes) false, .sl (t3s y.devs) false]))::[],i.1⟩) (fun i=>i.2<=cs.length/\∀j,j<i.2->cmdOk (y.nodes.getD j default) (cs.getD j 0)=true) (fun i=>cs.length - i.2) (_,0) ⟨Nat.zero_le _,fun j hj=>absurd hj (Nat.not_lt_zero _)⟩ (uKF) ?_
  rintro⟨ck,i⟩ ⟨hi,hj⟩
  simp only at hi hj
  repeat refine uA ?_
  refine uW ?_;refine condP _ rfl (fun h=>?_) (fun h=>?_)
  ·have hlc:i<cs.length:=by omega
   have hlt:i<y.nodes.length:=by omega
   cases c2:cmdOk (y.nodes.getD i default) (cs.getD i 0) with
   |false=>
    refine uD1 (uI (nds_getD hlt) (ints_getD hlc)) ?_;intro K hK
    refine uH ?_
    refine callF uTS ((command_sat (y.nodes.getD i default) (cs.getD i 0) (by have:=hex i hlt;omega))) uTS uTS uTS ?_;refine uS ?_
    first|refine uS1 @c2 ?_|exact uX1 @c2
    refine uH ?_
    refine hK _ ?_;clear hK K
    repeat first|refine uC ?_|refine uA ?_
    (refine awp_ret (ret1 uRT ?_);try rfl)
    have:cmdsOk y.nodes cs=false:=by
     rw[cmdsOk,List.all_eq_false]
     exact⟨i,List.mem_range.2 hlc,by rw[c2];simp⟩
    rw[possR,if_neg c1',if_pos this];rfl
   |true=>
    refine uD1 (uI (nds_getD hlt) (ints_getD hlc)) ?_;intro K hK
    refine uH ?_
    refine callF uTS ((command_sat (y.nodes.getD i default) (cs.getD i 0) (by have:=hex i hlt;omega))) uTS uTS uTS ?_;refine uS ?_
    first|refine uS1 @c2 ?_|exact uX1 @c2
    refine uH ?_
    refine hK _ ?_;clear hK K
    repeat first|refine uC ?_|refine uA ?_
    refine⟨(_,i+1),⟨by simp only;omega,fun j hj'=>?_⟩,by simp only;omega,uKF⟩
    by_cases hji:j=i
    ·subst hji;exact c2
    ·exact hj j (by simp only at hj';omega)
  ·refine awp_exit ?_
   have c2:cmdsOk y.nodes cs=true:=by
    rw[cmdsOk,List.all_eq_true]
    intro j hj'
    exact hj j (by have:=List.mem_range.1 hj';omega)
   have c2':¬cmdsOk y.nodes cs=false:=by rw[c2];simp
   clear hj hi h
   repeat refine uA ?_
   refine uW ?_;refine condP _ rfl (fun c3=>?_) (fun c3=>?_)
   ·repeat refine uA ?_
    (refine awp_ret (ret1 uRT ?_);try rfl)
    rw[possR,if_neg c1',if_neg c2',if_pos (by omega)];rfl
   ·have c3':¬4<fs.length:=by omega
    have e0:possR y.nodes cs fs=if firstE y.nodes fs≠0 then firstE y.nodes fs else if dupF fs=true then 5 else 0:=by rw[possR,if_neg c1',if_neg c2',if_neg c3']
    rw[e0]
    repeat refine uA ?_
    refine uW ?_
    refine awp_loopW (fun i:Nat×Nat=>⟨[(2, .sl (t3s fs) false),(3, .ptO 103 1 0 0 0),(8,I i.2)],(103,some (1, .box [.sl (nds y.nodes) false, .sl (t3s y.devs) false]))::[],i.1⟩) (fun i=>i.2<=fs.length/\firstE y.nodes fs=firstE y.nodes (fs.drop i.2)) (fun i=>fs.length - i.2) (_,0) ⟨Nat.zero_le _,rfl⟩ (uKF) ?_
    rintro⟨ck,i⟩ ⟨hi,hj⟩
    simp only at hi hj
    repeat refine uA ?_
    refine uW ?_;refine condP _ rfl (fun h=>?_) (fun h=>?_)
    ·have hlt:i<fs.length:=by omega
     have e5:=firstE_drop (xs:=y.nodes) hlt
     rw[e5] at hj
     generalize e3:fs.getD i default=f at*
     by_cases k1:f.a≠1/\f.a≠2
     ·have d1:decide (¬f.a=1)=true:=decide_eq_true k1.1
      have d2:decide (¬f.a=2)=true:=decide_eq_true k1.2
      have e6:fltE y.nodes f=4:=if_pos k1
      rw[e6] at hj
      repeat first|refine uC ?_|refine uA1 (uI (t3s_getD hlt) (uI @e3 (uI @d1 @d2))) ?_
      (refine awp_ret (ret1 uRT ?_);try rfl)
      rw[hj];rfl
     ·have e7:fltE y.nodes f=if f.b<0\/(y.nodes.length:Int)<=f.b\/f.c<0\/(y.nodes.getD f.b.toNat default).ln<=f.c then 1 else 0:=if_neg k1
      have k2:f.a=1\/f.a=2:=by omega
      by_cases k3:f.b<0\/(y.nodes.length:Int)<=f.b\/f.c<0\/(y.nodes.getD f.b.toNat default).ln<=f.c
      ·rw[if_pos k3] at e7
       rw[e7] at hj
       by_cases b1:f.b<0
       ·rcases k2 with k2|k2
        ·repeat first|refine uC ?_|refine uA1 (uI (t3s_getD hlt) (uI @e3 (uI @k2 @b1))) ?_
         refine uK1 (uI (t3s_getD hlt) (uI @e3 (uI @k2 @b1))) ?_
         repeat first|refine uC ?_|refine uA ?_
         (refine awp_ret (ret1 uRT ?_);try rfl)
         rw[hj];rfl
        ·repeat first|refine uC ?_|refine uA1 (uI (t3s_getD hlt) (uI @e3 (uI @k2 @b1))) ?_
         refine uK1 (uI (t3s_getD hlt) (uI @e3 (uI @k2 @b1))) ?_
         repeat first|refine uC ?_|refine uA ?_
         (refine awp_ret (ret1 uRT ?_);try rfl)
         rw[hj];rfl
       ·by_cases b2:(y.nodes.length:Int)<=f.b
        ·rcases k2 with k2|k2
         ·repeat first|refine uC ?_|refine uA1 (uI (t3s_getD hlt) (uI @e3 (uI @k2 (uI @b1 @b2)))) ?_
          refine uK1 (uI (t3s_getD hlt) (uI @e3 (uI @k2 (uI @b1 @b2)))) ?_
          repeat first|refine uC ?_|refine uA ?_
          (refine awp_ret (ret1 uRT ?_);try rfl)
          rw[hj];rfl
         ·repeat first|refine uC ?_|refine uA1 (uI (t3s_getD hlt) (uI @e3 (uI @k2 (uI @b1 @b2)))) ?_
          refine uK1 (uI (t3s_getD hlt) (uI @e3 (uI @k2 (uI @b1 @b2)))) ?_
          repeat first|refine uC ?_|refine uA ?_
          (refine awp_ret (ret1 uRT ?_);try rfl)
          rw[hj];rfl
        ·by_cases b3:f.c<0
         ·rcases k2 with k2|k2
          ·repeat first|refine uC ?_|refine uA1 (uI (t3s_getD hlt) (uI @e3 (uI @k2 (uI @b1 (uI @b2 @b3))))) ?_
           refine uK1 (uI (t3s_getD hlt) (uI @e3 (uI @k2 (uI @b1 (uI @b2 @b3))))) ?_
           repeat first|refine uC ?_|refine uA ?_
           (refine awp_ret (ret1 uRT ?_);try rfl)
           rw[hj];rfl
          ·repeat first|refine uC ?_|refine uA1 (uI (t3s_getD hlt) (uI @e3 (uI @k2 (uI @b1 (uI @b2 @b3))))) ?_
           refine uK1 (uI (t3s_getD hlt) (uI @e3 (uI @k2 (uI @b1 (uI @b2 @b3))))) ?_
           repeat first|refine uC ?_|refine uA ?_
           (refine awp_ret (ret1 uRT ?_);try rfl)
           rw[hj];rfl
         ·have b4:(y.nodes.getD f.b.toNat default).ln<=f.c:=by omega
          have hbl:f.b.toNat<y.nodes.length:=by omega
          rcases k2 with k2|k2
          ·repeat first|refine uC ?_|refine uA1 (uI (t3s_getD hlt) (uI @e3 (uI @k2 (uI @b1 (uI @b2 (uI @b3 (uI @b4 (nds_getD hbl)))))))) ?_
           refine uK1 (uI (t3s_getD hlt) (uI @e3 (uI @k2 (uI @b1 (uI @b2 (uI @b3 (uI @b4 (nds_getD hbl)))))))) ?_
           repeat first|refine uC ?_|refine uA ?_
           (refine awp_ret (ret1 uRT ?_);try rfl)
           rw[hj];rfl
          ·repeat first|refine uC ?_|refine uA1 (uI (t3s_getD hlt) (uI @e3 (uI @k2 (uI @b1 (uI @b2 (uI @b3 (uI @b4 (nds_getD hbl)))))))) ?_
           refine uK1 (uI (t3s_getD hlt) (uI @e3 (uI @k2 (uI @b1 (uI @b2 (uI @b3 (uI @b4 (nds_getD hbl)))))))) ?_
           repeat first|refine uC ?_|refine uA ?_
           (refine awp_ret (ret1 uRT ?_);try rfl)
           rw[hj];rfl
      ·rw[if_neg k3] at e7
       rw[e7] at hj
       have b1:¬f.b<0:=fun h=>k3 (.inl h)
       have b2:¬(y.nodes.length:Int)<=f.b:=fun h=>k3 (.inr (.inl h))
       have b3:¬f.c<0:=fun h=>k3 (.inr (.inr (.inl h)))
       have b4:¬(y.nodes.getD f.b.toNat default).ln<=f.c:=fun h=>k3 (.inr (.inr (.inr h)))
       have hbl:f.b.toNat<y.nodes.length:=by omega
       rcases k2 with k2|k2
       ·repeat first|refine uC ?_|refine uA1 (uI (t3s_getD hlt) (uI @e3 (uI @k2 (uI @b1 (uI @b2 (uI @b3 (uI @b4 (nds_getD hbl)))))))) ?_
        refine uK1 (uI (t3s_getD hlt) (uI @e3 (uI @k2 (uI @b1 (uI @b2 (uI @b3 (uI @b4 (nds_getD hbl)))))))) ?_
        repeat first|refine uC ?_|refine uA ?_
        refine⟨(_,i+1),⟨by simp only;omega,by simp only;rw[hj];rfl⟩,by simp only;omega,uKF⟩
       ·repeat first|refine uC ?_|refine uA1 (uI (t3s_getD hlt) (uI @e3 (uI @k2 (uI @b1 (uI @b2 (uI @b3 (uI @b4 (nds_getD hbl)))))))) ?_
        refine uK1 (uI (t3s_getD hlt) (uI @e3 (uI @k2 (uI @b1 (uI @b2 (uI @b3 (uI @b4 (nds_getD hbl)))))))) ?_
        repeat first|refine uC ?_|refine uA ?_
        refine⟨(_,i+1),⟨by simp only;omega,by simp only;rw[hj];rfl⟩,by simp only;omega,uKF⟩
    ·refine awp_exit ?_
     have hfe:¬firstE y.nodes fs≠0:=by rw[hj,List.drop_eq_nil_of_le (by omega)];simp[firstE]
     rw[if_neg hfe]
     clear hj hi h
     repeat refine uA ?_
     refine uW ?_
     refine awp_loopW (fun i:Nat×Nat=>⟨[(2, .sl (t3s fs) false),(10,I i.2)],[],i.1⟩) (fun i=>i.2<=fs.length/\∀j,j<i.2->∀k,k<j->¬((fs.getD j default).b=(fs.getD k default).b/\(fs.getD j default).c=(fs.getD k default).c)) (fun i=>fs.length - i.2) (_,0) ⟨Nat.zero_le _,fun j hj=>absurd hj (Nat.not_lt_zero _)⟩ (uKF) ?_
     rintro⟨ck,i⟩ ⟨hi,hj⟩
     simp only at hi hj
     repeat refine uA ?_
     refine uW ?_;refine condP _ rfl (fun h=>?_) (fun h=>?_)
     ·have hlt:i<fs.length:=by omega
      repeat refine uA ?_
      refine uW ?_
      refine awp_loopW (fun k:Nat×Nat=>⟨[(2, .sl (t3s fs) false),(10,I i),(11,I k.2)],[],k.1⟩) (fun k=>k.2<=i/\∀j,j<k.2->¬((fs.getD i default).b=(fs.getD j default).b/\(fs.getD i default).c=(fs.getD j default).c)) (fun k=>i - k.2) (_,0) ⟨Nat.zero_le _,fun j hj=>absurd hj (Nat.not_lt_zero _)⟩ (uKF) ?_
      rintro⟨ck,k⟩ ⟨hk,hjk⟩
      simp only at hk hjk
      repeat refine uA ?_
      refine uW ?_;refine condP _ rfl (fun h2=>?_) (fun h2=>?_)
      ·have hki:k<i:=by omega
       have hkl:k<fs.length:=by omega
       have hdup:(fs.getD i default).b=(fs.getD k default).b/\(fs.getD i default).c=(fs.getD k default).c->dupF fs=true:=by
        intro hh
        rw[dupF,List.any_eq_true]
        refine⟨i,List.mem_range.2 hlt,?_⟩
        rw[List.any_eq_true]
        exact⟨k,List.mem_range.2 hki,by rw[decide_eq_true hh.1,decide_eq_true hh.2];rfl⟩
       generalize e3:fs.getD i default=f at*
       generalize e4:fs.getD k default=q at*
       by_cases b1:f.b=q.b
       ·by_cases b2:f.c=q.c
        ·have d1:decide (f.b=q.b)=true:=decide_eq_true b1
         have d2:decide (f.c=q.c)=true:=decide_eq_true b2
         refine uK1 (uI (t3s_getD hlt) (uI (t3s_getD hkl) (uI @e3 (uI @e4 (uI @d1 @d2))))) ?_
         repeat first|refine uC ?_|refine uA ?_
         (refine awp_ret (ret1 uRT ?_);try rfl)
         rw[hdup ⟨b1,b2⟩];rfl
        ·have d1:decide (f.b=q.b)=true:=decide_eq_true b1
         have d2:decide (f.c=q.c)=false:=decide_eq_false b2
         refine uK1 (uI (t3s_getD hlt) (uI (t3s_getD hkl) (uI @e3 (uI @e4 (uI @d1 @d2))))) ?_
         repeat first|refine uC ?_|refine uA ?_
         refine⟨(_,k+1),⟨by simp only;omega,fun j hj'=>?_⟩,by simp only;omega,uKF⟩
         by_cases hjk':j=k
         ·subst hjk';rw[e4];exact fun h=>b2 h.2
         ·exact hjk j (by simp only at hj';omega)
       ·have d1:decide (f.b=q.b)=false:=decide_eq_false b1
        refine uK1 (uI (t3s_getD hlt) (uI (t3s_getD hkl) (uI @e3 (uI @e4 @d1)))) ?_
        repeat first|refine uC ?_|refine uA ?_
        refine⟨(_,k+1),⟨by simp only;omega,fun j hj'=>?_⟩,by simp only;omega,uKF⟩
        by_cases hjk':j=k
        ·subst hjk';rw[e4];exact fun h=>b1 h.1
        ·exact hjk j (by simp only at hj';omega)
      ·refine awp_exit ?_
       repeat refine uA ?_
       refine⟨(_,i+1),⟨by simp only;omega,fun j hj'=>?_⟩,by simp only;omega,uKF⟩
       by_cases hji:j=i
       ·subst hji;exact fun k' hk'=>hjk k' (by omega)
       ·exact hj j (by simp only at hj';omega)
     ·refine awp_exit ?_
      have hd:¬dupF fs=true:=by
       rw[dupF,List.any_eq_true]
       rintro⟨j,hj1,hj2⟩
       rw[List.any_eq_true] at hj2
       obtain⟨k,hk1,hk2⟩:=hj2
       rw[Bool.and_eq_true,decide_eq_true_eq,decide_eq_true_eq] at hk2
       exact hj j (by have:=List.mem_range.1 hj1;omega) k (List.mem_range.1 hk1) hk2
      repeat refine uA ?_
      (refine awp_ret (ret1 uRT ?_);try rfl)
      rw[if_neg hd];rfl
def openR (x:Nd) (sl:List Int):Bool:=
 if isStrip x.kd=true then decide (sl.getD 0 0=0)&&(decide (¬x.kd=5)||decide (2<=free sl)) else true
def entR (xs:List Nd) (p:Pl):Nat->List Bool
 |0=>[]
 |i+1=>entR xs p i++[openR (xs.getD i default) (p.slots.getD i [])]
theorem entR_length (xs:List Nd) (p:Pl):∀i,(entR xs p i).length=i
 |0=>rfl
 |i+1=>by rw[entR,List.length_append,entR_length xs p i];rfl
theorem entrances_sat (y:Ly) (p:Pl) (hp:FitP y.nodes p):
  SatG Tryz.prog tab 91 [] [y.av,p.av] [(100,some (1, .own 4 1 (bls (entR y.nodes p y.nodes.length))))] (.slO 100 1 0 y.nodes.length):=by
 have hxl:=hp.xl
 refine uFN Tryz.func91 Tryz.ntmps91 ?_;intro w e X hC
 repeat refine uA ?_
 refine uW ?_
 refine awp_loopW (fun i:Nat×Nat=>⟨[(2, .ptO 102 1 0 0 0),(3, .ptO 103 2 0 0 0),(5, .slO 105 4 0 i.2),(6,I i.2)],(105,some (4, .own 4 1 (bls (entR y.nodes p i.2))))::(102,some (1, .box [.sl (nds y.nodes) false, .sl (t3s y.devs) false]))::(103,some (2, .box [RS p.slots,RS p.bins]))::[],i.1⟩) (fun i=>i.2<=y.nodes.length) (fun i=>y.nodes.length - i.2) (_,0) (Nat.zero_le _) (uKF) ?_
 rintro⟨ck,i⟩ hi
 simp only at hi
 have hel:=entR_length y.nodes p i
 have e1:entR y.nodes p (i+1)=entR y.nodes p i++[openR (y.nodes.getD i default) (p.slots.getD i [])]:=rfl
 generalize e9:entR y.nodes p i=o at*
 repeat refine uA ?_
 refine uW ?_;refine condP _ rfl (fun h=>?_) (fun h=>?_)
 ·have hn:i<y.nodes.length:=by omega
  have hns:i<p.slots.length:=by rw[hp.sl];exact hn
  have hrl:=hp.row i hn
  have hln:=hp.ln i hn
  have hst:=hp.st i hn
  generalize e2:y.nodes.getD i default=x at*
  generalize e3:p.slots.getD i []=sl at*
  repeat refine uA ?_
  cases c1:isStrip x.kd with
  |false=>
   have e4:openR x sl=true:=by rw[openR,c1];rfl
   refine uR1 (uI (nds_getD hn) @e2) ?_;intro K hK
   refine uH ?_
   refine callF uTS ((strip7_sat x.kd)) uTS uTS uTS ?_;refine uS ?_
   first|refine uS1 @c1 ?_|exact uX1 @c1
   refine hK _ ?_;clear hK K
   refine uF ?_
   repeat refine uA1 @hel ?_
   refine⟨(_,i+1),by simp only;omega,by simp only;omega, .of (Nat.le_refl _) (uHF1 (uI @e1 @e4)) uWF⟩
  |true=>
   have hl0:0<sl.length:=by have:=hst c1;omega
   have e4:openR x sl=(decide (sl.getD 0 0=0)&&(decide (¬x.kd=5)||decide (2<=free sl))):=by rw[openR,c1];rfl
   have hfr:free sl<=sl.length:=List.count_le_length
   have ef:decide ((2:Int)<=(free sl:Int))=decide (2<=free sl):=by by_cases h:2<=free sl<;>simp[h]<;>omega
   refine uR1 (uI (nds_getD hn) @e2) ?_;intro K hK
   refine uH ?_
   refine callF uTS ((strip7_sat x.kd)) uTS uTS uTS ?_;refine uS ?_
   first|refine uS1 @c1 ?_|exact uX1 @c1
   refine hK _ ?_;clear hK K
   refine uT ?_
   by_cases c2:sl.getD 0 0=0
   ·have d2:decide (sl.getD 0 0=0)=true:=decide_eq_true c2
    by_cases c3:x.kd=5
    ·have d3:decide (¬x.kd=5)=false:=decide_eq_false (fun h=>h c3)
     refine uR1 (uI (nds_getD hn) (uI @e2 (uI (rows_getD hns) (uI @e3 (uI (ints_getD hl0) (uI @Int.toNat_zero (uI @d2 @d3))))))) ?_;intro K hK
     refine uH ?_
     refine callF uTS ((free_sat sl (by omega))) uTS uTS uTS ?_;refine uS ?_
     refine hK _ ?_;clear hK K
     have e5:openR x sl=decide (2<=(free sl:Int)):=by rw[e4,ef,d2,d3];rfl
     repeat refine uA1 @hel ?_
     refine⟨(_,i+1),by simp only;omega,by simp only;omega, .of (Nat.le_refl _) (uHF1 (uI @e1 @e5)) uWF⟩
    ·have d3:decide (¬x.kd=5)=true:=decide_eq_true c3
     refine uR1 (uI (nds_getD hn) (uI @e2 (uI (rows_getD hns) (uI @e3 (uI (ints_getD hl0) (uI @Int.toNat_zero (uI @d2 @d3))))))) ?_;intro K hK
     refine uH ?_
     refine hK _ ?_;clear hK K
     have e5:openR x sl=true:=by rw[e4,d2,d3];rfl
     repeat refine uA1 @hel ?_
     refine⟨(_,i+1),by simp only;omega,by simp only;omega, .of (Nat.le_refl _) (uHF1 (uI @e1 @e5)) uWF⟩
   ·have d2:decide (sl.getD 0 0=0)=false:=decide_eq_false c2
    refine uR1 (uI (nds_getD hn) (uI @e2 (uI (rows_getD hns) (uI @e3 (uI (ints_getD hl0) (uI @Int.toNat_zero @d2)))))) ?_;intro K hK
    refine uH ?_
    refine hK _ ?_;clear hK K
    have e5:openR x sl=false:=by rw[e4,d2];rfl
    repeat refine uA1 @hel ?_
    refine⟨(_,i+1),by simp only;omega,by simp only;omega, .of (Nat.le_refl _) (uHF1 (uI @e1 @e5)) uWF⟩
 ·refine awp_exit ?_
  have hi':i=y.nodes.length:=by omega
  subst hi'
  repeat refine uA ?_
  rw[e9]
  refine awp_ret ?_;rw[show Tryz.f91.results.toList=[.tmp 4] from rfl];(refine retG [(100,1,105,4)] uRG (by simp) (by simp) (by simp) uTG uTG uTG ?_ ?_;all_goals (first|refine uSG ?_|exact uXG|skip))
def inB (n lo hi:Int):Bool:=decide (lo<=n)&&decide (n<=hi)
theorem in7_sat (n lo hi:Int):SatG Tryz.prog tab 101 [] [I n,I lo,I hi] [] (B (inB n lo hi)):=by
 refine uFN Tryz.func101 Tryz.ntmps101 ?_;intro w e X hC
 refine uA ?_
 by_cases c1:lo<=n
 ·have d1:decide (lo<=n)=true:=decide_eq_true c1
  repeat refine uA1 @d1 ?_
  (refine awp_ret (ret1 uRT ?_);try rfl)
  simp only[go_sem,Nat.reduceAdd,Nat.reduceSub,Nat.reduceMul,Nat.reduceLT,Nat.reduceEqDiff,Nat.reduceBEq,Nat.reduceLeDiff,Int.reduceToNat,↓reduceIte,Int.reduceEq,Int.reduceLT,Int.reduceLE,Int.reduceAdd,Int.reduceSub,Int.reduceNeg,reduceCtorEq,inB,d1,Bool.true_and]
 ·have d1:decide (lo<=n)=false:=decide_eq_false c1
  repeat refine uA1 @d1 ?_
  (refine awp_ret (ret1 uRT ?_);try rfl)
  simp only[go_sem,Nat.reduceAdd,Nat.reduceSub,Nat.reduceMul,Nat.reduceLT,Nat.reduceEqDiff,Nat.reduceBEq,Nat.reduceLeDiff,Int.reduceToNat,↓reduceIte,Int.reduceEq,Int.reduceLT,Int.reduceLE,Int.reduceAdd,Int.reduceSub,Int.reduceNeg,reduceCtorEq,inB,d1,Bool.false_and]
def exitsN (kd:Int):Int:=if kd=4\/kd=5\/kd=6 then 2 else if kd=8\/kd=9 then 0 else 1
theorem exits7_sat (kd:Int):SatG Tryz.prog tab 115 [] [I kd] [] (I (exitsN kd)):=by
 refine uFN Tryz.func115 Tryz.ntmps115 ?_;intro w e X hC
 iterate 2 refine uA ?_
 have kds:kd=4\/kd=5\/kd=6\/kd=8\/kd=9\/(¬kd=4/\¬kd=5/\¬kd=6/\¬kd=8/\¬kd=9):=by omega
 rcases kds with c|c|c|c|c|⟨c1,c2,c3,c4,c5⟩
 ·subst c;repeat first|refine uC ?_|refine uA ?_
  (refine awp_ret (ret1 uRT ?_);try rfl)
 ·subst c;repeat first|refine uC ?_|refine uA ?_
  (refine awp_ret (ret1 uRT ?_);try rfl)
 ·subst c;repeat first|refine uC ?_|refine uA ?_
  (refine awp_ret (ret1 uRT ?_);try rfl)
 ·subst c;repeat first|refine uC ?_|refine uA ?_
  (refine awp_ret (ret1 uRT ?_);try rfl)
 ·subst c;repeat first|refine uC ?_|refine uA ?_
  (refine awp_ret (ret1 uRT ?_);try rfl)
 ·have e1:exitsN kd=1:=by simp[exitsN,c1,c2,c3,c4,c5]
  repeat first|refine uC ?_|refine uA1 (uI @c1 (uI @c2 (uI @c3 (uI @c4 @c5)))) ?_
  (refine awp_ret (ret1 uRT ?_);try rfl)
  first|refine uS1 @e1 ?_|exact uX1 @e1
def leadsB (x:Nd) (f t:Int):Bool:=decide (¬f=t)&&decide (t∈x.ex)
theorem leads_sat (y:Ly) (f:Nat) (t:Int) (hf:f<y.nodes.length) (hy:y.nodes.length<=1000) (hx:(y.nodes.getD f default).ex.length<=1000):
  SatG Tryz.prog tab 137 [] [y.av,I f,I t] [] (B (leadsB (y.nodes.getD f default) f t)):=by
 refine uFN Tryz.func137 Tryz.ntmps137 ?_;intro w e X hC
 refine uA ?_
 by_cases c1:(f:Int)=t
 ·have d1:decide (¬(f:Int)=t)=false:=decide_eq_false (fun h=>h c1)
  repeat refine uA1 @d1 ?_
  (refine awp_ret (ret1 uRT ?_);try rfl)
  simp only[go_sem,Nat.reduceAdd,Nat.reduceSub,Nat.reduceMul,Nat.reduceLT,Nat.reduceEqDiff,Nat.reduceBEq,Nat.reduceLeDiff,Int.reduceToNat,↓reduceIte,Int.reduceEq,Int.reduceLT,Int.reduceLE,Int.reduceAdd,Int.reduceSub,Int.reduceNeg,reduceCtorEq,leadsB,d1,Bool.false_and]
 ·have d1:decide (¬(f:Int)=t)=true:=decide_eq_true c1
  refine uR1 (uI @d1 (nds_getD hf)) ?_;intro K hK
  refine uH ?_
  refine callF uTS ((in_sat (y.nodes.getD f default).ex t (by omega))) uTS uTS uTS ?_;refine uS ?_
  refine hK _ ?_;clear hK K
  (refine awp_ret (ret1 uRT ?_);try rfl)
  simp only[go_sem,Nat.reduceAdd,Nat.reduceSub,Nat.reduceMul,Nat.reduceLT,Nat.reduceEqDiff,Nat.reduceBEq,Nat.reduceLeDiff,Int.reduceToNat,↓reduceIte,Int.reduceEq,Int.reduceLT,Int.reduceLE,Int.reduceAdd,Int.reduceSub,Int.reduceNeg,reduceCtorEq,leadsB,d1,Bool.true_and]
def totL (xs:List Nd):Nat->Int
 |0=>0
 |i+1=>totL xs i+(xs.getD i default).ln
theorem totL_le {xs:List Nd} (hx:∀i,i<xs.length->0<=(xs.getD i default).ln/\(xs.getD i default).ln<=1000):∀i,i<=xs.length->0<=totL xs i/\totL xs i<=1000*i
 |0,_=>by simp[totL]
 |i+1,h=>by
  have:=totL_le hx i (by omega)
  have:=hx i (by omega)
  rw[totL];omega
def total (xs:List Nd):Int:=totL xs xs.length
theorem total_sat (y:Ly) (hy:y.nodes.length<=1000) (hx:∀i,i<y.nodes.length->0<=(y.nodes.getD i default).ln/\(y.nodes.getD i default).ln<=1000):
  SatG Tryz.prog tab 59 [] [y.av] [] (I (total y.nodes)):=by
 refine uFN Tryz.func59 Tryz.ntmps59 ?_;intro w e X hC
 repeat refine uA ?_
 refine uW ?_
 refine awp_loopW (fun i:Nat×Nat=>⟨[(1, .ptO 101 1 0 0 0),(3,I (totL y.nodes i.2)),(4,I i.2)],(101,some (1, .box [.sl (nds y.nodes) false, .sl (t3s y.devs) false]))::[],i.1⟩) (fun i=>i.2<=y.nodes.length) (fun i=>y.nodes.length - i.2) (_,0) (Nat.zero_le _) (uKF) ?_
 rintro⟨ck,i⟩ hi
 simp only at hi
 have hb:=totL_le hx i hi
 have e1:totL y.nodes (i+1)=totL y.nodes i+(y.nodes.getD i default).ln:=rfl
 generalize e9:totL y.nodes i=o at*
 repeat refine uA ?_
 refine uW ?_;refine condP _ rfl (fun h=>?_) (fun h=>?_)
 ·have hn:i<y.nodes.length:=by omega
  have hxi:=hx i hn
  repeat refine uA1 (nds_getD hn) ?_
  refine⟨(_,i+1),by simp only;omega,by simp only;omega, .of (Nat.le_refl _) uHF (uWF1 @e1)⟩
 ·refine awp_exit ?_
  have hi':i=y.nodes.length:=by omega
  subst hi'
  repeat refine uA ?_
  (refine awp_ret (ret1 uRT ?_);try rfl)
  rw[total,e9];rfl
theorem ba_eq {a b:ByteArray} (h:a.data.toList=b.data.toList):a=b:=by
 cases a;cases b
 congr 1
 exact Array.toList_inj.1 h
def findN (xs:List Nd) (nm:ByteArray):Int:=match xs.findIdx? fun x=>decide (x.nm=nm) with|some i=>i|none=>-1
theorem find_sat (y:Ly) (nm:ByteArray) (hy:y.nodes.length<=1000):SatG Tryz.prog tab 74 [] [y.av,S nm] [] (I (findN y.nodes nm)):=by
 refine uFN Tryz.func74 Tryz.ntmps74 ?_;intro w e X hC
 repeat refine uA ?_
 refine uW ?_
 refine awp_loopW (fun i:Nat×Nat=>⟨[(1,S nm),(2, .ptO 102 1 0 0 0),(5,I i.2)],(102,some (1, .box [.sl (nds y.nodes) false, .sl (t3s y.devs) false]))::[],i.1⟩) (fun i=>i.2<=y.nodes.length/\∀j,j<i.2->(y.nodes.getD j default).nm≠nm) (fun i=>y.nodes.length - i.2) (_,0) ⟨Nat.zero_le _,fun j hj=>absurd hj (Nat.not_lt_zero _)⟩ (uKF) ?_
 rintro⟨ck,i⟩ ⟨hi,hj⟩
 simp only at hi hj
 repeat refine uA ?_
 refine uW ?_;refine condP _ rfl (fun h=>?_) (fun h=>?_)
 ·have hn:i<y.nodes.length:=by omega
  repeat refine uA1 (nds_getD hn) ?_
  refine uW ?_;refine condP _ rfl (fun c1=>?_) (fun c1=>?_)
  ·have c2:=ba_eq c1
   repeat refine uA ?_
   have e1:(y.nodes.findIdx? fun x=>decide (x.nm=nm))=some i:=by
    rw[List.findIdx?_eq_some_iff_getElem]
    refine⟨hn,by simpa[hn] using c2,fun j hj'=>?_⟩
    have hj2:j<y.nodes.length:=by omega
    simpa[hj2] using hj j hj'
   (refine awp_ret (ret1 uRT ?_);try rfl)
   rw[findN,e1];rfl
  ·repeat refine uA ?_
   refine⟨(_,i+1),⟨by simp only;omega,fun j hj'=>?_⟩,by simp only;omega,uKF⟩
   by_cases hji:j=i
   ·subst hji;exact fun h=>c1 (by rw[h])
   ·exact hj j (by simp only at hj';omega)
 ·refine awp_exit ?_
  have e1:(y.nodes.findIdx? fun x=>decide (x.nm=nm))=none:=by
   rw[List.findIdx?_eq_none_iff]
   intro x hx
   obtain⟨j,hj',rfl⟩:=List.getElem_of_mem hx
   simpa[hj'] using hj j (by omega)
  repeat refine uA ?_
  (refine awp_ret (ret1 uRT ?_);try rfl)
  rw[findN,e1];rfl
def rdyK (xs:List Nd) (out:List Int) (i:Nat):Nat->Bool
 |0=>!decide ((i:Int)∈out)
 |k+1=>if leadsB (xs.getD k default) k i=true/\¬(k:Int)∈out then false else rdyK xs out i k
def nxF (xs:List Nd) (out:List Int):Nat->Int
 |0=>-1
 |c+1=>if rdyK xs out (xs.length - 1 - c) xs.length=true then((xs.length - 1 - c:Nat):Int) else nxF xs out c
def nxt (xs:List Nd) (out:List Int):Int:=nxF xs out xs.length
def ordR (xs:List Nd):Nat->List Int
 |0=>[]
 |n+1=>if nxt xs (ordR xs n)<0 then ordR xs n else ordR xs n++[nxt xs (ordR xs n)]
theorem ordR_stop {xs:List Nd} {n:Nat} (h:nxt xs (ordR xs n)<0):∀m,ordR xs (n+m)=ordR xs n
 |0=>rfl
 |m+1=>by
  have ih:=ordR_stop h m
  rw[Nat.add_succ,ordR,ih,if_pos h]
theorem nxF_lt {xs:List Nd} {out:List Int}:∀c,nxF xs out c<max 1 (xs.length:Int)
 |0=>by rw[nxF];omega
 |c+1=>by
  have:=nxF_lt (xs:=xs) (out:=out) c
  rw[nxF];split<;>omega
def order (xs:List Nd):List Int:=ordR xs xs.length
theorem order7_sat (y:Ly) (hy:y.nodes.length<=1000) (hx:∀i,i<y.nodes.length->(y.nodes.getD i default).ex.length<=1000):
  SatG Tryz.prog tab 100 [] [y.av] [] (IS (order y.nodes)):=by
 refine uFN Tryz.func100 Tryz.ntmps100 ?_;intro w e X hC
 repeat refine uA ?_
 refine uW ?_
 refine awp_loopW (fun i:Nat×Nat=>⟨[(1, .ptO 101 1 0 0 0),(3, .slO 103 3 0 i.2)],(103,some (3, .own 3 1 (ints (ordR y.nodes i.2))))::(101,some (1, .box [.sl (nds y.nodes) false, .sl (t3s y.devs) false]))::[],i.1⟩) (fun i=>i.2<=y.nodes.length/\(ordR y.nodes i.2).length=i.2) (fun i=>y.nodes.length - i.2) (_,0) ⟨Nat.zero_le _,rfl⟩ (uKF) ?_
 rintro⟨ck,n⟩ ⟨hn,hol⟩
 simp only at hn hol
 have e1:ordR y.nodes (n+1)=if nxt y.nodes (ordR y.nodes n)<0 then ordR y.nodes n else ordR y.nodes n++[nxt y.nodes (ordR y.nodes n)]:=rfl
 have hst (h:nxt y.nodes (ordR y.nodes n)<0):order y.nodes=ordR y.nodes n:=by
  have:=ordR_stop h (y.nodes.length - n)
  rw[show n+(y.nodes.length - n)=y.nodes.length by omega] at this
  exact this
 have hfin (h:n=y.nodes.length):order y.nodes=ordR y.nodes n:=by rw[h];rfl
 generalize e9:ordR y.nodes n=o at*
 repeat refine uA1 @hol ?_
 refine uW ?_;refine condP _ rfl (fun h=>?_) (fun h=>?_)
 ·have hlt:n<y.nodes.length:=by omega
  repeat refine uA1 @hol ?_
  have ei:(y.nodes.length:Int) - 1=((y.nodes.length:Int) - 1 - ((0:Nat):Int)):=by omega
  refine uW ?_
  refine awp_loopW (fun c:Nat×Nat=>⟨[(1, .ptO 101 1 0 0 0),(3, .slO 103 3 0 n),(4,I (nxF y.nodes o c.2)),(5,I ((y.nodes.length:Int) - 1 - c.2))],(103,some (3, .own 3 1 (ints o)))::(101,some (1, .box [.sl (nds y.nodes) false, .sl (t3s y.devs) false]))::[],c.1⟩) (fun c=>c.2<=y.nodes.length) (fun c=>y.nodes.length - c.2) (_,0) (Nat.zero_le _) (.of (Nat.le_refl _) uHF (by repeat (first|exact WOk.nil|refine WOk.cons rfl ?_|(refine WOk.cons ?_ ?_;(focus (simp only[go_sem,Nat.reduceAdd,Nat.reduceSub,Nat.reduceMul,Nat.reduceLT,Nat.reduceEqDiff,Nat.reduceBEq,Nat.reduceLeDiff,Int.reduceToNat,↓reduceIte,Int.reduceEq,Int.reduceLT,Int.reduceLE,Int.reduceAdd,Int.reduceSub,Int.reduceNeg,reduceCtorEq,<-ei];done)))|(refine WOk.snap ?_ ?_ ?_ ?_;(focus (first|exact trivial|(simp only[go_sem,Nat.reduceAdd,Nat.reduceSub,Nat.reduceMul,Nat.reduceLT,Nat.reduceEqDiff,Nat.reduceBEq,Nat.reduceLeDiff,Int.reduceToNat,↓reduceIte,Int.reduceEq,Int.reduceLT,Int.reduceLE,Int.reduceAdd,Int.reduceSub,Int.reduceNeg,reduceCtorEq,<-ei]<;>trivial)));(focus (first|rfl|((simp only[go_sem,Nat.reduceAdd,Nat.reduceSub,Nat.reduceMul,Nat.reduceLT,Nat.reduceEqDiff,Nat.reduceBEq,Nat.reduceLeDiff,Int.reduceToNat,↓reduceIte,Int.reduceEq,Int.reduceLT,Int.reduceLE,Int.reduceAdd,Int.reduceSub,Int.reduceNeg,reduceCtorEq,<-ei]<;>rfl);done)));(focus (first|(simp only[go_sem,Nat.reduceAdd,Nat.reduceSub,Nat.reduceMul,Nat.reduceLT,Nat.reduceEqDiff,Nat.reduceBEq,Nat.reduceLeDiff,Int.reduceToNat,↓reduceIte,Int.reduceEq,Int.reduceLT,Int.reduceLE,Int.reduceAdd,Int.reduceSub,Int.reduceNeg,reduceCtorEq,<-ei];done)|((simp only[go_sem,Nat.reduceAdd,Nat.reduceSub,Nat.reduceMul,Nat.reduceLT,Nat.reduceEqDiff,Nat.reduceBEq,Nat.reduceLeDiff,Int.reduceToNat,↓reduceIte,Int.reduceEq,Int.reduceLT,Int.reduceLE,Int.reduceAdd,Int.reduceSub,Int.reduceNeg,reduceCtorEq,<-ei]<;>simp);done)|(simp;done))))))) ?_
  rintro⟨ck,c⟩ hc
  simp only at hc
  repeat refine uA ?_
  refine uW ?_;refine condP _ rfl (fun h2=>?_) (fun h2=>?_)
  ·have hcl:c<y.nodes.length:=by omega
   obtain⟨i,hi⟩:∃i,i=y.nodes.length - 1 - c:=⟨_,rfl⟩
   have hii:(y.nodes.length:Int) - 1 - c=i:=by omega
   have hil:i<y.nodes.length:=by omega
   have e2:nxF y.nodes o (c+1)=if rdyK y.nodes o i y.nodes.length=true then(i:Int) else nxF y.nodes o c:=by rw[nxF,<-hi]
   have e3:(i:Int) - 1=(y.nodes.length:Int) - 1 - ((c+1:Nat):Int):=by omega
   simp only[hii]
   generalize nxF y.nodes o c=nx at*
   refine uR ?_;intro K hK
   refine uH ?_
   refine callF (rc:=B (decide ((i:Int)∈o))) ?_ ?_ ?_ ?_ ?_ ?_;(focus (first|exact trivial|(simp only[go_sem,Nat.reduceAdd,Nat.reduceSub,Nat.reduceMul,Nat.reduceLT,Nat.reduceEqDiff,Nat.reduceBEq,Nat.reduceLeDiff,Int.reduceToNat,↓reduceIte,Int.reduceEq,Int.reduceLT,Int.reduceLE,Int.reduceAdd,Int.reduceSub,Int.reduceNeg,reduceCtorEq,hol]<;>trivial)));(focus (simp only[go_sem,Nat.reduceAdd,Nat.reduceSub,Nat.reduceMul,Nat.reduceLT,Nat.reduceEqDiff,Nat.reduceBEq,Nat.reduceLeDiff,Int.reduceToNat,↓reduceIte,Int.reduceEq,Int.reduceLT,Int.reduceLE,Int.reduceAdd,Int.reduceSub,Int.reduceNeg,reduceCtorEq,hol];exact(in_sat o i (by omega))));(focus (first|exact trivial|(simp only[go_sem,Nat.reduceAdd,Nat.reduceSub,Nat.reduceMul,Nat.reduceLT,Nat.reduceEqDiff,Nat.reduceBEq,Nat.reduceLeDiff,Int.reduceToNat,↓reduceIte,Int.reduceEq,Int.reduceLT,Int.reduceLE,Int.reduceAdd,Int.reduceSub,Int.reduceNeg,reduceCtorEq,hol]<;>trivial)));(focus (first|exact trivial|(simp only[go_sem,Nat.reduceAdd,Nat.reduceSub,Nat.reduceMul,Nat.reduceLT,Nat.reduceEqDiff,Nat.reduceBEq,Nat.reduceLeDiff,Int.reduceToNat,↓reduceIte,Int.reduceEq,Int.reduceLT,Int.reduceLE,Int.reduceAdd,Int.reduceSub,Int.reduceNeg,reduceCtorEq,hol]<;>trivial)));(focus (first|exact trivial|(simp only[go_sem,Nat.reduceAdd,Nat.reduceSub,Nat.reduceMul,Nat.reduceLT,Nat.reduceEqDiff,Nat.reduceBEq,Nat.reduceLeDiff,Int.reduceToNat,↓reduceIte,Int.reduceEq,Int.reduceLT,Int.reduceLE,Int.reduceAdd,Int.reduceSub,Int.reduceNeg,reduceCtorEq,hol]<;>trivial)));first|refine uS1 @hol ?_|exact uX1 @hol
   refine hK _ ?_;clear hK K
   repeat refine uA ?_
   have e5:rdyK y.nodes o i 0=!decide ((i:Int)∈o):=rfl
   refine uW ?_
   refine awp_loopW (fun k:Nat×Nat=>⟨[(1, .ptO 101 1 0 0 0),(3, .slO 103 3 0 n),(4,I nx),(5,I i),(6,B (rdyK y.nodes o i k.2)),(7,I k.2)],(103,some (3, .own 3 1 (ints o)))::(101,some (1, .box [.sl (nds y.nodes) false, .sl (t3s y.devs) false]))::[],k.1⟩) (fun k=>k.2<=y.nodes.length) (fun k=>y.nodes.length - k.2) (_,0) (Nat.zero_le _) (.of (Nat.le_refl _) uHF (uWF1 @e5)) ?_
   rintro⟨ck,k⟩ hk
   simp only at hk
   repeat refine uA ?_
   refine uW ?_;refine condP _ rfl (fun h3=>?_) (fun h3=>?_)
   ·have hkl:k<y.nodes.length:=by omega
    have e6:rdyK y.nodes o i (k+1)=if leadsB (y.nodes.getD k default) k i=true/\¬(k:Int)∈o then false else rdyK y.nodes o i k:=rfl
    have hxk:=hx k hkl
    generalize rdyK y.nodes o i k=rd at*
    cases c1:leadsB (y.nodes.getD k default) k i with
    |false=>
     rw[if_neg (by rw[c1];simp)] at e6
     refine uR ?_;intro K hK
     refine callF uTS ((leads_sat y k i hkl hy hxk)) uTS uTS uTS ?_;refine uS ?_
     first|refine uS1 @c1 ?_|exact uX1 @c1
     refine hK _ ?_;clear hK K
     repeat first|refine uC ?_|refine uA ?_
     repeat refine uA ?_
     refine⟨(_,k+1),by simp only;omega,by simp only;omega, .of (Nat.le_refl _) uHF (uWF1 @e6)⟩
    |true=>
     by_cases c2:(k:Int)∈o
     ·have d2:decide ((k:Int)∈o)=true:=decide_eq_true c2
      rw[if_neg (fun h=>h.2 c2)] at e6
      refine uR ?_;intro K hK
      refine callF uTS ((leads_sat y k i hkl hy hxk)) uTS uTS uTS ?_;refine uS ?_
      first|refine uS1 @c1 ?_|exact uX1 @c1
      refine callF (rc:=B (decide ((k:Int)∈o))) ?_ ?_ ?_ ?_ ?_ ?_;(focus (first|exact trivial|(simp only[go_sem,Nat.reduceAdd,Nat.reduceSub,Nat.reduceMul,Nat.reduceLT,Nat.reduceEqDiff,Nat.reduceBEq,Nat.reduceLeDiff,Int.reduceToNat,↓reduceIte,Int.reduceEq,Int.reduceLT,Int.reduceLE,Int.reduceAdd,Int.reduceSub,Int.reduceNeg,reduceCtorEq,hol,d2]<;>trivial)));(focus (simp only[go_sem,Nat.reduceAdd,Nat.reduceSub,Nat.reduceMul,Nat.reduceLT,Nat.reduceEqDiff,Nat.reduceBEq,Nat.reduceLeDiff,Int.reduceToNat,↓reduceIte,Int.reduceEq,Int.reduceLT,Int.reduceLE,Int.reduceAdd,Int.reduceSub,Int.reduceNeg,reduceCtorEq,hol,d2];exact(by have:=in_sat o k (by omega);simpa only[d2] using this)));(focus (first|exact trivial|(simp only[go_sem,Nat.reduceAdd,Nat.reduceSub,Nat.reduceMul,Nat.reduceLT,Nat.reduceEqDiff,Nat.reduceBEq,Nat.reduceLeDiff,Int.reduceToNat,↓reduceIte,Int.reduceEq,Int.reduceLT,Int.reduceLE,Int.reduceAdd,Int.reduceSub,Int.reduceNeg,reduceCtorEq,hol,d2]<;>trivial)));(focus (first|exact trivial|(simp only[go_sem,Nat.reduceAdd,Nat.reduceSub,Nat.reduceMul,Nat.reduceLT,Nat.reduceEqDiff,Nat.reduceBEq,Nat.reduceLeDiff,Int.reduceToNat,↓reduceIte,Int.reduceEq,Int.reduceLT,Int.reduceLE,Int.reduceAdd,Int.reduceSub,Int.reduceNeg,reduceCtorEq,hol,d2]<;>trivial)));(focus (first|exact trivial|(simp only[go_sem,Nat.reduceAdd,Nat.reduceSub,Nat.reduceMul,Nat.reduceLT,Nat.reduceEqDiff,Nat.reduceBEq,Nat.reduceLeDiff,Int.reduceToNat,↓reduceIte,Int.reduceEq,Int.reduceLT,Int.reduceLE,Int.reduceAdd,Int.reduceSub,Int.reduceNeg,reduceCtorEq,hol,d2]<;>trivial)));first|refine uS1 (uI @hol @d2) ?_|exact uX1 (uI @hol @d2)
      refine hK _ ?_;clear hK K
      repeat first|refine uC ?_|refine uA ?_
      repeat refine uA ?_
      refine⟨(_,k+1),by simp only;omega,by simp only;omega, .of (Nat.le_refl _) uHF (uWF1 @e6)⟩
     ·have d2:decide ((k:Int)∈o)=false:=decide_eq_false c2
      rw[if_pos ⟨c1,c2⟩] at e6
      refine uR ?_;intro K hK
      refine callF uTS ((leads_sat y k i hkl hy hxk)) uTS uTS uTS ?_;refine uS ?_
      first|refine uS1 @c1 ?_|exact uX1 @c1
      refine callF (rc:=B (decide ((k:Int)∈o))) ?_ ?_ ?_ ?_ ?_ ?_;(focus (first|exact trivial|(simp only[go_sem,Nat.reduceAdd,Nat.reduceSub,Nat.reduceMul,Nat.reduceLT,Nat.reduceEqDiff,Nat.reduceBEq,Nat.reduceLeDiff,Int.reduceToNat,↓reduceIte,Int.reduceEq,Int.reduceLT,Int.reduceLE,Int.reduceAdd,Int.reduceSub,Int.reduceNeg,reduceCtorEq,hol,d2]<;>trivial)));(focus (simp only[go_sem,Nat.reduceAdd,Nat.reduceSub,Nat.reduceMul,Nat.reduceLT,Nat.reduceEqDiff,Nat.reduceBEq,Nat.reduceLeDiff,Int.reduceToNat,↓reduceIte,Int.reduceEq,Int.reduceLT,Int.reduceLE,Int.reduceAdd,Int.reduceSub,Int.reduceNeg,reduceCtorEq,hol,d2];exact(by have:=in_sat o k (by omega);simpa only[d2] using this)));(focus (first|exact trivial|(simp only[go_sem,Nat.reduceAdd,Nat.reduceSub,Nat.reduceMul,Nat.reduceLT,Nat.reduceEqDiff,Nat.reduceBEq,Nat.reduceLeDiff,Int.reduceToNat,↓reduceIte,Int.reduceEq,Int.reduceLT,Int.reduceLE,Int.reduceAdd,Int.reduceSub,Int.reduceNeg,reduceCtorEq,hol,d2]<;>trivial)));(focus (first|exact trivial|(simp only[go_sem,Nat.reduceAdd,Nat.reduceSub,Nat.reduceMul,Nat.reduceLT,Nat.reduceEqDiff,Nat.reduceBEq,Nat.reduceLeDiff,Int.reduceToNat,↓reduceIte,Int.reduceEq,Int.reduceLT,Int.reduceLE,Int.reduceAdd,Int.reduceSub,Int.reduceNeg,reduceCtorEq,hol,d2]<;>trivial)));(focus (first|exact trivial|(simp only[go_sem,Nat.reduceAdd,Nat.reduceSub,Nat.reduceMul,Nat.reduceLT,Nat.reduceEqDiff,Nat.reduceBEq,Nat.reduceLeDiff,Int.reduceToNat,↓reduceIte,Int.reduceEq,Int.reduceLT,Int.reduceLE,Int.reduceAdd,Int.reduceSub,Int.reduceNeg,reduceCtorEq,hol,d2]<;>trivial)));first|refine uS1 (uI @hol @d2) ?_|exact uX1 (uI @hol @d2)
      refine hK _ ?_;clear hK K
      repeat first|refine uC ?_|refine uA ?_
      repeat refine uA ?_
      refine⟨(_,k+1),by simp only;omega,by simp only;omega, .of (Nat.le_refl _) uHF (uWF1 @e6)⟩
   ·refine awp_exit ?_
    have hk':k=y.nodes.length:=by omega
    subst hk'
    cases c1:rdyK y.nodes o i y.nodes.length with
    |false=>
     rw[c1,if_neg (by simp)] at e2
     repeat first|refine uC ?_|refine uA ?_
     refine⟨(_,c+1),by simp only;omega,by simp only;omega, .of (Nat.le_refl _) uHF (uWF1 (uI @e2 @e3))⟩
    |true=>
     rw[c1,if_pos rfl] at e2
     repeat first|refine uC ?_|refine uA ?_
     refine⟨(_,c+1),by simp only;omega,by simp only;omega, .of (Nat.le_refl _) uHF (uWF1 (uI @e2 @e3))⟩
  ·refine awp_exit ?_
   have hc':c=y.nodes.length:=by omega
   subst hc'
   have e4:nxF y.nodes o y.nodes.length=nxt y.nodes o:=rfl
   rw[e4]
   repeat refine uA ?_
   refine uW ?_;refine condP _ rfl (fun c1=>?_) (fun c1=>?_)
   ·have e5:=hst c1
    repeat refine uA ?_
    (refine awp_ret (ret1 (uRT1 @hol) ?_);try rfl)
    first|refine uS1 (uI @hol @e5) ?_|exact uX1 (uI @hol @e5)
   ·rw[if_neg c1] at e1
    have e6:(ordR y.nodes (n+1)).length=n+1:=by rw[e1];simp[hol]
    repeat refine uA1 @hol ?_
    refine⟨(_,n+1),⟨by simp only;omega,e6⟩,by simp only;omega, .of (Nat.le_refl _) (uHF1 @e1) uWF⟩
 ·refine awp_exit ?_
  have e4:=hfin (by omega)
  repeat refine uA ?_
  (refine awp_ret (ret1 (uRT1 @hol) ?_);try rfl)
  first|refine uS1 (uI @hol @e4) ?_|exact uX1 (uI @hol @e4)
theorem fstrip_sat (kd:Int):SatG Tryz.prog tab 81 [] [I kd] [] (B (isStrip kd)):=by
 refine uFN Tryz.func81 Tryz.ntmps81 ?_;intro w e X hC
 refine uA ?_
 by_cases c1:1<=kd
 ·have d1:decide (1<=kd)=true:=decide_eq_true c1
  repeat refine uA1 @d1 ?_
  (refine awp_ret (ret1 uRT ?_);try rfl)
  simp only[go_sem,Nat.reduceAdd,Nat.reduceSub,Nat.reduceMul,Nat.reduceLT,Nat.reduceEqDiff,Nat.reduceBEq,Nat.reduceLeDiff,Int.reduceToNat,↓reduceIte,Int.reduceEq,Int.reduceLT,Int.reduceLE,Int.reduceAdd,Int.reduceSub,Int.reduceNeg,reduceCtorEq,isStrip,d1,Bool.true_and]
 ·have d1:decide (1<=kd)=false:=decide_eq_false c1
  repeat refine uA1 @d1 ?_
  (refine awp_ret (ret1 uRT ?_);try rfl)
  simp only[go_sem,Nat.reduceAdd,Nat.reduceSub,Nat.reduceMul,Nat.reduceLT,Nat.reduceEqDiff,Nat.reduceBEq,Nat.reduceLeDiff,Int.reduceToNat,↓reduceIte,Int.reduceEq,Int.reduceLT,Int.reduceLE,Int.reduceAdd,Int.reduceSub,Int.reduceNeg,reduceCtorEq,isStrip,d1,Bool.false_and]
theorem sat_sat (fs:List Int) (k:Nat) (hn:fs.length<=1000):SatG Tryz.prog tab 163 [] [IS fs,I k] [] (I (fs.getD k 0)):=by
 refine uFN Tryz.func163 Tryz.ntmps163 ?_;intro w e X hC
 repeat refine uA ?_
 refine uW ?_;refine condP _ rfl (fun h=>?_) (fun h=>?_)
 ·repeat refine uA ?_
  (refine awp_ret (ret1 uRT ?_);try rfl)
  rw[List.getD_eq_getElem?_getD,List.getElem?_eq_none (by omega)];rfl
 ·have hlt:k<fs.length:=by omega
  repeat refine uA1 (ints_getD hlt) ?_
  (refine awp_ret (ret1 uRT ?_);try rfl)
def tgt1 (s:List Int) (k:Nat) (f:Int):Nat:=
 if f=1\/s.getD (k+1) 0≠0 then k
 else if f=2/\k+2<s.length/\s.getD (k+2) 0=0 then k+2 else k+1
theorem starget_sat (s:List Int) (k:Nat) (f:Int) (hs:s.length<=1000) (hk:k+1<s.length):SatG Tryz.prog tab 162 [] [IS s,I k,I f] [] (I (tgt1 s k f)):=by
 have e1:(k:Int)+1=((k+1:Nat):Int):=by omega
 have e2:(k:Int)+2=((k+2:Nat):Int):=by omega
 refine uFN Tryz.func162 Tryz.ntmps162 ?_;intro w e X hC
 refine uA ?_
 by_cases c1:f=1
 ·have d1:decide (f=1)=true:=decide_eq_true c1
  repeat first|refine uC ?_|refine uA1 @d1 ?_
  (refine awp_ret (ret1 uRT ?_);try rfl)
  rw[tgt1,if_pos (.inl c1)];rfl
 ·have d1:decide (f=1)=false:=decide_eq_false c1
  by_cases c2:s.getD (k+1) 0=0
  ·have d2:decide (¬s.getD (k+1) 0=0)=false:=decide_eq_false (fun h=>h c2)
   have c2':¬(f=1\/s.getD (k+1) 0≠0):=fun h=>h.elim c1 (fun h=>h c2)
   by_cases c3:f=2
   ·have d3:decide (f=2)=true:=decide_eq_true c3
    by_cases c4:k+2<s.length
    ·have d4:decide (((k+2:Nat):Int)<s.length)=true:=decide_eq_true (by omega)
     repeat first|refine uC ?_|refine uA1 (uI @d1 (uI @d2 (uI @d3 (uI @d4 (uI @e1 (uI @e2 (uI (ints_getD hk) (ints_getD c4)))))))) ?_
     refine uW ?_;refine condP _ rfl (fun c5=>?_) (fun c5=>?_)
     ·repeat refine uA ?_
      (refine awp_ret (ret1 uRT ?_);try rfl)
      rw[tgt1,if_neg c2',if_pos ⟨c3,c4,c5⟩];rfl
     ·repeat refine uA ?_
      (refine awp_ret (ret1 uRT ?_);try rfl)
      rw[tgt1,if_neg c2',if_neg (fun h=>c5 h.2.2)];rfl
    ·have d4:decide (((k+2:Nat):Int)<s.length)=false:=decide_eq_false (by omega)
     repeat first|refine uC ?_|refine uA1 (uI @d1 (uI @d2 (uI @d3 (uI @d4 (uI @e1 (uI @e2 (ints_getD hk))))))) ?_
     (refine awp_ret (ret1 uRT ?_);try rfl)
     rw[tgt1,if_neg c2',if_neg (fun h=>c4 h.2.1)];rfl
   ·have d3:decide (f=2)=false:=decide_eq_false c3
    repeat first|refine uC ?_|refine uA1 (uI @d1 (uI @d2 (uI @d3 (uI @e1 (uI @e2 (ints_getD hk)))))) ?_
    (refine awp_ret (ret1 uRT ?_);try rfl)
    rw[tgt1,if_neg c2',if_neg (fun h=>c3 h.1)];rfl
  ·have d2:decide (¬s.getD (k+1) 0=0)=true:=decide_eq_true c2
   repeat first|refine uC ?_|refine uA1 (uI @d1 (uI @d2 (uI @e1 (ints_getD hk)))) ?_
   (refine awp_ret (ret1 uRT ?_);try rfl)
   rw[tgt1,if_pos (.inr c2)];rfl
theorem sfree_sat (s:List Int) (hn:s.length<=1000):SatG Tryz.prog tab 161 [] [IS s] [] (I (free s)):=by
 refine uFN Tryz.func161 Tryz.ntmps161 ?_;intro w e X hC
 repeat refine uA ?_
 refine uW ?_
 refine awp_loopW (fun i:Nat×Nat=>⟨[(3,I ((s.take i.2).count 0:Nat)),(6,IS s),(7,I s.length),(8,I i.2)],[],i.1⟩) (fun i=>i.2<=s.length) (fun i=>s.length - i.2) (_,0) (Nat.zero_le _) (uKF) ?_
 rintro⟨ck,i⟩ hi
 simp only at hi
 have hc:(s.take i).count 0<=i:=Nat.le_trans List.count_le_length (by simp;omega)
 repeat refine uA ?_
 refine uW ?_;refine condP _ rfl (fun h=>?_) (fun h=>?_)
 ·have hlt:i<s.length:=by omega
  have e1:=count_take hlt
  generalize (s.take i).count 0=c at*
  repeat refine uA1 (ints_getD hlt) ?_
  refine uW ?_;refine condP _ rfl (fun e'=>?_) (fun e'=>?_)
  ·rw[if_pos e'] at e1
   repeat refine uA ?_
   refine⟨(_,i+1),by simp only;omega,by simp only;omega, .of (Nat.le_refl _) uHF (uWF1 @e1)⟩
  ·rw[if_neg e'] at e1
   repeat refine uA ?_
   refine⟨(_,i+1),by simp only;omega,by simp only;omega, .of (Nat.le_refl _) uHF (uWF1 @e1)⟩
 ·refine awp_exit ?_
  have hi':i=s.length:=by omega
  subst hi'
  repeat refine uA ?_
  (refine awp_ret (ret1 uRT ?_);try rfl)
  rw[List.take_length];rfl
end Go.Proofs.YtkhjenddapaejaaGreatDoor
namespace Go.Sym
open Go Go.Great
def BackOk (P:Program) (fb:FuncId):Prop:=
 Enters P fb/\∀(l bx off:Nat) (xs:List Int) (J:Nat->World->Prop) (W0:World),xs.length<=9223372036854775807->J 0 W0->
  (∀i W,J i W->∃U,VD W U (.ptI [IS xs]) (.pointer (some ⟨bx,off,none⟩)))->
  (∀i W,i<xs.length->J i W->YieldAt Fence.wide 0 P l #[.int .i64 ((xs.length:Int) - 1 - i), .int .i64 (xs.getD (xs.length - 1 - i) 0)] W (fun en W'=>en= .returned (.bool true)/\J (i+1) W'))->
  CallsIn Fence.wide 0 P fb #[.func (.yield l) #[] #[], .pointer (some ⟨bx,off,none⟩)] W0 (fun en W'=>(∃v,en= .returned v)/\J xs.length W')
def awp2 (C:Cx) (x y:Code) (Q:Exit->St->Prop) (s:St):Prop:=
 ∀a w,RelS C s a w->x.wpIn (fen C.rd) 0 C.P (Exit.then (y.wpIn (fen C.rd) 0 C.P (fun ex a' w'=>(∃s',RelS C s' a' w'/\Q ex s')\/(ex= .ret/\C.esc a' w'))) (fun ex a' w'=>(∃s',RelS C s' a' w'/\Q ex s')\/(ex= .ret/\C.esc a' w'))) a w
theorem awp_seq3 {C:Cx} {x y z:Code} {Q:Exit->St->Prop} {s:St} (h:awp C x (QThen (awp2 C y z Q) Q) s):awp C (.seq (.seq x y) z) Q s:=by
 intro a w hr
 refine wpIn_seq (wpIn_seq (wpIn_mono (h a w hr) ?_))
 rintro e a' w' (⟨s',h1,h2⟩|⟨rfl,h⟩)
 ·cases e<;>first|exact h2 a' w' h1|exact .inl ⟨s',h1,h2⟩
 ·exact .inr ⟨rfl,h⟩
def QRnd (hp':Hp):Exit->St->Prop
 | .normal,s=>∃(σ:Nm) (D:List Nat),NmOk σ/\(∀q∈σ,q.2.1=0/\q.2.2.1=q.1/\q.2.2.2=0)/\rnHP true σ s.hp σ/\(∀d∈rnHR true σ s.hp σ,d∈D)/\(∀d∈D,lk σ d=none)/\rnH true σ s.hp=hp'
 |_,_=>False
section
variable {C:Cx} {T:Tab}
theorem HRel.zwr {w w':World} {e:Env} {G:Nat->Prop} {hp:Hp} (h:HRel w e G hp) (hs:w'.heap.size=w.heap.size) (hh:∀b,¬e.z b->w'.heap[b]?=w.heap[b]?):HRel w' e G hp/\Ext w e G w' e G:=by
 have ext:Ext w e G w' e G:=⟨by omega,fun _ h=>h,fun _ _ h=>h,fun b _ hu=>hh b hu.1,fun _ ee' h _=>⟨ee',h,rfl,rfl, .inl ⟨rfl,rfl⟩⟩⟩
 refine⟨?_,ext⟩
 exact h.step (fun _=>False) ext rfl (fun _ _=>⟨rfl,rfl⟩) (fun id ee b c _ he hb=>⟨hh b (h.nz _ _ _ _ he hb),fun b' c' hk=>⟨hh b' (h.kl _ _ _ hk).2.2,hk⟩⟩)
  (fun _ h=>h.elim) (fun _ _ _ h=>h.elim) (fun _ _ _ _ h=>h.elim) (fun b B c hk=>by rw[hs];exact h.kl b B c hk) h.ko h.kk
def ezz (e:Env) (z':Nat->Prop):Env:=⟨e.m,z',e.kid⟩
theorem HRel.zmore {w w':World} {e:Env} {G:Nat->Prop} {hp:Hp} (h:HRel w e G hp) {z':Nat->Prop} (hz:∀b,e.z b->z' b) (hz':∀b,b<w.heap.size->z' b->e.z b) (hs:w.heap.size<=w'.heap.size)
  (hh:∀b,b<w.heap.size->w'.heap[b]?=w.heap[b]?):HRel w' (ezz e z') G hp/\Ext w e G w' (ezz e z') G:=by
 have ext:Ext w e G w' (ezz e z') G:=⟨hs,fun _ h=>h,fun b hb hu=>⟨fun h=>hu.1 (hz' b hb h),hu.2⟩,fun b hb _=>hh b hb,fun _ ee' h _=>⟨ee',h,rfl,rfl, .inl ⟨rfl,rfl⟩⟩⟩
 refine⟨⟨h.dead,fun id g ob hi=>?_,h.inj,fun id ee b c he hb=>Nat.lt_of_lt_of_le (h.lt _ _ _ _ he hb) hs,fun id ee b c he hb hzz=>h.nz _ _ _ _ he hb (hz' b (h.lt _ _ _ _ he hb) hzz),fun b B c hk=>?_,h.ko,h.kk⟩,ext⟩
 ·obtain⟨ee,h1,h2,h3,h4⟩:=h.live id g ob hi
  exact⟨ee,h1,h2,h3,h4.ext ext fun b c hb=>⟨hh b (h.lt _ _ _ _ h1 hb),fun b' c' hk=>⟨hh b' (h.kl _ _ _ hk).1,hk⟩⟩⟩
 ·obtain⟨h1,h2,h3⟩:=h.kl b B c hk
  exact⟨Nat.lt_of_lt_of_le h1 hs,Nat.lt_of_lt_of_le h2 hs,fun hzz=>h3 (hz' b h1 hzz)⟩
theorem HRel.zless {w w':World} {e:Env} {G:Nat->Prop} {hp:Hp} (h:HRel w e G hp) {z':Nat->Prop} (hz:∀b,z' b->e.z b) (hs:w'.heap.size=w.heap.size)
  (hh:∀b,¬e.z b->w'.heap[b]?=w.heap[b]?):HRel w' (ezz e z') G hp/\Ext w e G w' (ezz e z') G:=by
 have ext:Ext w e G w' (ezz e z') G:=⟨by omega,fun _ h=>h,fun b _ hu=>⟨fun h=>hu.1 (hz b h),hu.2⟩,fun b _ hu=>hh b hu.1,fun _ ee' h _=>⟨ee',h,rfl,rfl, .inl ⟨rfl,rfl⟩⟩⟩
 refine⟨⟨h.dead,fun id g ob hi=>?_,h.inj,fun id ee b c he hb=>by rw[hs];exact h.lt _ _ _ _ he hb,fun id ee b c he hb hzz=>h.nz _ _ _ _ he hb (hz b hzz),fun b B c hk=>?_,h.ko,h.kk⟩,ext⟩
 ·obtain⟨ee,h1,h2,h3,h4⟩:=h.live id g ob hi
  exact⟨ee,h1,h2,h3,h4.ext ext fun b c hb=>⟨hh b (h.nz _ _ _ _ h1 hb),fun b' c' hk=>⟨hh b' (h.kl _ _ _ hk).2.2,hk⟩⟩⟩
 ·obtain⟨h1,h2,h3⟩:=h.kl b B c hk
  exact⟨by omega,by omega,fun hzz=>h3 (hz b hzz)⟩
structure Rd (w1:World) (e0:Env) (L:Loop) (l:Nat) (hp:Hp) (W:World) (e':Env):Prop where
 hr:HRel W e' (Glt 1) hp
 ext:Ext w1 e0 (Glt 1) W e' (Glt 1)
 z:e'.z=e0.z
 own:∀b,OwnB e' b->w1.heap.size<=b\/OwnB e0 b
 os:W.os=w1.os
 tape:W.tape=w1.tape
 output:W.output=w1.output
 same:∀b,b<w1.heap.size->b≠l->¬OwnB e0 b->W.heap[b]?=w1.heap[b]?
 rec_:W.heap[l]?=some (.loop L)
theorem Rd.zwr {w1 W W':World} {e0 e':Env} {L L':Loop} {l:Nat} {hp:Hp} (h:Rd w1 e0 L l hp W e') (hz:e0.z l) (hs:W'.heap.size=W.heap.size) (hh:∀b,b≠l->W'.heap[b]?=W.heap[b]?) (hl:W'.heap[l]?=some (.loop L'))
  (h1:W'.os=W.os) (h2:W'.tape=W.tape) (h3:W'.output=W.output):Rd w1 e0 L' l hp W' e':=by
 have hl':e'.z l:=by rw[h.z];exact hz
 obtain⟨k1,k2⟩:=h.hr.zwr hs (fun b hb=>hh b (by rintro rfl;exact hb hl'))
 exact⟨k1,h.ext.trans k2,h.z,h.own,h1.trans h.os,h2.trans h.tape,h3.trans h.output,fun b hb hbl ho=>(hh b hbl).trans (h.same b hb hbl ho),hl⟩
theorem putObj_other {w:World} {r k:Nat} {o:Obj} (h:k≠r):(w.putObj r o).heap[k]?=w.heap[k]?:=World.putObj_heap_other h
theorem putObj_size {w:World} {r:Nat} {o:Obj}:(w.putObj r o).heap.size=w.heap.size:=by simp[World.putObj]
theorem rd_round (hC:TOk C.P T) {N:Nat} {w1 W:World} {e0 e':Env} {L:Loop} {l:Nat} {hp hp2:Hp}
  (hgl:GOk T w1 (UE e0)) (h:Rd w1 e0 L l hp W e') (hz:e0.z l) (hzl:∀b,e0.z b->b<w1.heap.size)
  {s:St} (hsh:s.hp=hp) (hsc:s.ck=1) {a:Act} (ha:a.defers=[]) (has:a.tmps.size=N) (htm:∀t,VR W (UE e') e' (Glt 1) (tget s.tm t) (a.tmps.getD t undef)) {body:Code}
  (hb:∀(w:World) (e:Env) (rd:Option Nat) (X:Act->World->Prop),COk ⟨C.P,N,w,e,rd,[],X⟩ T->awp ⟨C.P,N,w,e,rd,[],X⟩ body (QRnd hp2) s):
  body.wpIn (fen (some l)) 0 C.P (fun ex _ W'=>ex= .normal/\∃e'',Rd w1 e0 L l hp2 W' e'') a W:=by
 have hC':COk ⟨C.P,N,W,e',some l,[],fun _ _=>False⟩ T:=⟨hC,hgl.mono h.ext.size (fun b hb hu=>h.ext.un b hb hu) (fun b hb hu=>h.ext.same b hb hu)⟩
 have hrel:RelS ⟨C.P,N,W,e',some l,[],fun _ _=>False⟩ s a W:=by
  refine⟨ha,has,⟨rfl,rfl,rfl,Nat.le_refl _,fun _ _ _=>rfl⟩,e',by rw[hsh,hsc];exact h.hr,⟨rfl,fun b hb=>?_,?_,fun _ h=> .inr h⟩,by rw[hsc];exact htm⟩
  ·have hb':e'.z b:=hb
   rw[h.z] at hb'
   exact Nat.lt_of_lt_of_le (hzl b hb') h.ext.size
  ·rw[hsc];exact Ext.refl _ _ _
 refine wpIn_mono (hb W e' (some l) _ hC' a W hrel) ?_
 intro ex a' W' hpost
 obtain⟨s',hr,hq⟩:=hpost.resolve_right fun h=>h.2
 cases ex<;>first|exact hq.elim|skip
 refine⟨rfl,?_⟩
 obtain⟨σ,D,q1,q2,q3,q4,q5,q6⟩:=hq
 obtain⟨e1,hr1,hln,hv⟩:=hr.body
 have rk:RnOk true e1 s'.hp (Glt 1) σ D e1.z:=⟨q1,q3,q4,q5,fun q hq=>by rw[(q2 q hq).1];exact Nat.zero_lt_one,fun _ h=>h,fun _ h=> .inl h⟩
 have hr2:=rk.rel hr1
 have fz:=rk.frz hr1
 have own1:∀b,OwnB (eN σ e1 e1.z) b->OwnB e1 b:=fun b ho=>by
  obtain⟨q,_,h⟩:=eN_own ho;exact h.own
 rw[q6] at hr2
 have hz1:e1.z=e'.z:=hln.zeq
 have ext1:Ext W e' (Glt 1) W' (eN σ e1 e1.z) (Glt 1):=by
  refine⟨hln.ext.size,fun _ h=>h,fun b hb hu=>fz.un b (hln.ext.un b hb hu),hln.ext.same,fun id ee' he' hg=>?_⟩
  obtain⟨gi,a,ga,ee,hm,h6,rfl⟩:=eN_some he'
  obtain⟨h7,h8,h9⟩:=q2 _ hm
  simp only at h7 h8 h9
  subst h7 h8 h9
  obtain⟨ob,h10,_⟩:=rnHP_all q3 hm
  obtain⟨ee2,h11,h12,_⟩:=hr1.live _ _ _ h10
  rw[h6] at h11;cases h11
  obtain⟨ee0,k1,k2,k3,k4⟩:=hln.ext.ent a ee h6 (by rw[h12];exact Nat.zero_lt_one)
  exact⟨ee0,k1,k2.trans h12,k3,k4⟩
 refine⟨eN σ e1 e1.z,hr2,h.ext.trans ext1,hz1.trans h.z,fun b ho=>?_,hr.frm.os.trans h.os,hr.frm.tape.trans h.tape,hr.frm.output.trans h.output,fun b hb hbl ho=>?_,?_⟩
 ·rcases hln.mine b (own1 b ho) with h4|h4
  ·exact .inl (Nat.le_trans h.ext.size h4)
  ·exact h.own b h4
 ·refine(hr.frm.same b (Nat.lt_of_lt_of_le hb h.ext.size) fun ho'=>?_).trans (h.same b hb hbl ho)
  rcases h.own b ho' with h4|h4
  ·omega
  ·exact ho h4
 ·have hlt:l<W.heap.size:=Nat.lt_of_lt_of_le (hzl l hz) h.ext.size
  exact(hr.frm.same l hlt fun ho=>h.hr.own_nz ho (by rw[h.z];exact hz)).trans h.rec_
def QRetR (T:Tab) (rs:List ResultVar) (hp':Hp) (r:AV):Exit->St->Prop
 | .ret,s=>∃σ D,RetG T rs σ D hp' r s
 |_,_=>False
def lay (w:World) (L:Loop):World:=(w.alloc (.deferred (some []))).alloc (.loop L)
theorem lay_size (w:World) (L:Loop):(lay w L).heap.size=w.heap.size+2:=by
 unfold lay;rw[size_new,size_new]
theorem lay_old (w:World) (L:Loop) {b:Nat} (h:b<w.heap.size):(lay w L).heap[b]?=w.heap[b]?:=by
 have g:=(Grow.alloc (w.alloc (.deferred (some []))) (.loop L)).same b (by rw[size_new];omega)
 exact g.trans ((Grow.alloc w (.deferred (some []))).same b h)
theorem lay_D (w:World) (L:Loop):(lay w L).heap[w.heap.size]?=some (.deferred (some [])):=by
 have g:=(Grow.alloc (w.alloc (.deferred (some []))) (.loop L)).same w.heap.size (by rw[size_new];omega)
 exact g.trans (heap_new w _)
theorem lay_l (w:World) (L:Loop):(lay w L).heap[w.heap.size+1]?=some (.loop L):=by
 have:=heap_new (w.alloc (.deferred (some []))) (.loop L)
 rw[size_new] at this
 exact this
theorem esc_of (hT:TOk C.P T) {fn:Func} {hp':Hp} {r:AV} {w:World} {e:Env} {G:Nat->Prop} (hln:Lnt C w e G) (hfr:Frm C w) (hown:∀b,OwnB e b->b<w.heap.size/\¬e.z b) {L L':Loop} {X:Act->World->Prop}
  {s':St} {a':Act} {w':World}
  (hr:RelS ⟨C.P,C.N,(lay w L).putObj (w.heap.size+1) (.loop L'),ezz e (fun b=>e.z b\/b=w.heap.size\/b=w.heap.size+1),none,[markOf w.heap.size],X⟩ s' a' w')
  (hq:∃σ D,RetG T fn.results.toList σ D hp' r s'):EscG C.P fn C.w0 C.e0 hp' r a' w':=by
 obtain⟨e1,hr1,hl1,hv1⟩:=hr.body
 have sz1:((lay w L).putObj (w.heap.size+1) (.loop L')).heap.size=w.heap.size+2:=by rw[putObj_size,lay_size]
 have nown:∀b,b=w.heap.size\/b=w.heap.size+1->¬OwnB e b:=fun b hb ho=>by have:=(hown b ho).1;omega
 have z1:e1.z=fun b=>e.z b\/b=w.heap.size\/b=w.heap.size+1:=hl1.zeq
 have wD:w'.heap[w.heap.size]?=some (.deferred (some [])):=by
  have:=hr.frm.same w.heap.size (by show _<((lay w L).putObj (w.heap.size+1) (.loop L')).heap.size;omega) (nown _ (.inl rfl))
  rw[this]
  exact(putObj_other (by omega)).trans (lay_D w L)
 have szw:w.heap.size+2<=w'.heap.size:=by have:=hr.frm.size;rw[<-sz1];exact this
 refine⟨w.heap.size,hr.defers,wD,?_⟩
 obtain⟨k1,k2⟩:=hr1.zless (w':=w'.putObj w.heap.size (.deferred none)) (z':=e.z) (fun b hb=>by rw[z1];exact .inl hb) putObj_size (fun b hb=>putObj_other (by rintro rfl;exact hb (by rw[z1];exact .inr (.inl rfl))))
 have eqb:∀b,b<w.heap.size+2->¬OwnB e b->(w'.putObj w.heap.size (.deferred none)).heap[b]?=(((lay w L).putObj (w.heap.size+1) (.loop L')).putObj w.heap.size (.deferred none)).heap[b]?:=by
  intro b hb ho
  by_cases hbD:b=w.heap.size
  ·subst hbD
   rw[World.putObj_heap_same (by omega),World.putObj_heap_same (by omega)]
  ·rw[putObj_other hbD,putObj_other hbD]
   exact hr.frm.same b (by show b<((lay w L).putObj (w.heap.size+1) (.loop L')).heap.size;omega) ho
 have sz2:(((lay w L).putObj (w.heap.size+1) (.loop L')).putObj w.heap.size (.deferred none)).heap.size=w.heap.size+2:=by rw[putObj_size,sz1]
 have hrel:RelS ⟨C.P,C.N,((lay w L).putObj (w.heap.size+1) (.loop L')).putObj w.heap.size (.deferred none),e,none,[markOf w.heap.size],X⟩ s' a' (w'.putObj w.heap.size (.deferred none)):=by
  refine⟨hr.defers,hr.size,⟨hr.frm.os,hr.frm.tape,hr.frm.output,?_,fun b hb ho=>?_⟩,ezz e1 e.z,k1,⟨rfl,fun b hb=>?_,?_,fun b hb=>?_⟩,fun t=>(hv1 t).ext k2⟩
  ·show(((lay w L).putObj (w.heap.size+1) (.loop L')).putObj w.heap.size (.deferred none)).heap.size<=_
   rw[sz2,putObj_size];exact szw
  ·exact eqb b (by have h:b<(((lay w L).putObj (w.heap.size+1) (.loop L')).putObj w.heap.size (.deferred none)).heap.size:=hb;omega) ho
  ·show b<(((lay w L).putObj (w.heap.size+1) (.loop L')).putObj w.heap.size (.deferred none)).heap.size
   have:=hl1.zlt b (.inl hb)
   have h:b<((lay w L).putObj (w.heap.size+1) (.loop L')).heap.size:=this
   omega
  ·refine⟨?_,fun g h=>?_,fun b hb hu=>?_,fun b hb hu=>?_,fun id ee' he' hg=>?_⟩
   ·show(((lay w L).putObj (w.heap.size+1) (.loop L')).putObj w.heap.size (.deferred none)).heap.size<=_
    rw[sz2,putObj_size];exact szw
   ·exact hl1.ext.gs g h
   ·have hb':b<w.heap.size+2:=by have h:b<(((lay w L).putObj (w.heap.size+1) (.loop L')).putObj w.heap.size (.deferred none)).heap.size:=hb;omega
    by_cases h:b=w.heap.size\/b=w.heap.size+1
    ·exact⟨hu.1,fun ho=>hr1.own_nz ho (by rw[z1];exact .inr h)⟩
    ·have hu1:UE (ezz e (fun b=>e.z b\/b=w.heap.size\/b=w.heap.size+1)) b:=⟨fun hz=>hz.elim hu.1 h,hu.2⟩
     have:=hl1.ext.un b (by show b<((lay w L).putObj (w.heap.size+1) (.loop L')).heap.size;omega) hu1
     exact⟨hu.1,this.2⟩
   ·exact eqb b (by have h:b<(((lay w L).putObj (w.heap.size+1) (.loop L')).putObj w.heap.size (.deferred none)).heap.size:=hb;omega) hu.2
   ·exact hl1.ext.ent id ee' he' hg
  ·rcases hl1.mine b hb with h|h
   ·refine .inl ?_
    show(((lay w L).putObj (w.heap.size+1) (.loop L')).putObj w.heap.size (.deferred none)).heap.size<=b
    have h':((lay w L).putObj (w.heap.size+1) (.loop L')).heap.size<=b:=h
    omega
   ·exact .inr h
 obtain⟨v,hrun,e',q1,q2,q3,q4,q5,q6⟩:=Ends_of (C:=⟨C.P,C.N,((lay w L).putObj (w.heap.size+1) (.loop L')).putObj w.heap.size (.deferred none),e,none,[markOf w.heap.size],X⟩) rfl hT rfl rfl hrel hq
 have old:∀b,b<w.heap.size->(((lay w L).putObj (w.heap.size+1) (.loop L')).putObj w.heap.size (.deferred none)).heap[b]?=w.heap[b]?:=fun b hb=>by
  rw[putObj_other (by omega),putObj_other (by omega)];exact lay_old w L hb
 have hsz:=hfr.size
 refine⟨v,hrun,e',q1,q2,?_,q4.trans hln.zeq,fun b hb=>?_,⟨q6.os.trans hfr.os,q6.tape.trans hfr.tape,q6.output.trans hfr.output,by have h:(((lay w L).putObj (w.heap.size+1) (.loop L')).putObj w.heap.size (.deferred none)).heap.size<=_:=q6.size;omega,fun b hb ho=>?_⟩⟩
 ·refine Ext.trans (w':=((lay w L).putObj (w.heap.size+1) (.loop L')).putObj w.heap.size (.deferred none)) (e':=e) (G':=Glt 1) ⟨by omega,fun _ h=>h,hln.ext.un,fun b hb hu=>?_,hln.ext.ent⟩ q3
  exact(old b (by omega)).trans (hln.ext.same b hb hu)
 ·rcases q5 b hb with h|h
  ·have h':(((lay w L).putObj (w.heap.size+1) (.loop L')).putObj w.heap.size (.deferred none)).heap.size<=b:=h
   exact .inl (by omega)
  ·exact hln.mine b h
 ·have ho':¬OwnB e b:=fun h=>by
   rcases hln.mine b h with h1|h1
   ·omega
   ·exact ho h1
  exact(q6.same b (by show b<(((lay w L).putObj (w.heap.size+1) (.loop L')).putObj w.heap.size (.deferred none)).heap.size;omega) ho').trans ((old b (by omega)).trans (hfr.same b hb ho))
theorem fen_none:fen none=Fence.wide:=rfl
theorem awp2_back (hC:COk C T) (hrd:C.rd=none) (hdf:C.df=[]) {fb:FuncId} (hbk:BackOk C.P fb) {id p1 p2 d:Nat} {g:Operand} {assign body c:Code} {s:St} {xs:List Int} {Q:Exit->St->Prop}
  (hxl:xs.length<=9223372036854775807) (hg:s.ev g= .fn fb [.ptI [IS xs]]) (hp1:p1<C.N) (hp2:p2<C.N) (hdN:d<C.N) (hp12:p1≠p2) (hdp1:d≠p1) (hdp2:d≠p2)
  (hassign:∀(l:Nat) (tm:Array Value) (w:World) (K:Act->World->Prop),K {tmps:=tm.setIfInBounds d (tm.getD p2 undef),defers:=[]} w->assign.wpIn (fen (some l)) 0 C.P (Exit.then K fun _ _ _=>False) {tmps:=tm,defers:=[]} w)
  (τ:Nm) (hτ:NmOk τ) (hτ0:∀q∈τ,q.2.1=0/\q.1=q.2.2.1) (hpP:rnHP false τ s.hp τ) (hpR:∀d∈rnHR false τ s.hp τ,False) (hpf:Nat->Hp) (h0:rnH false τ s.hp=hpf 0)
  (tmB:List (Nat×AV)) (htmB:∀t,tget tmB t= .bad\/(t≠p1/\t≠p2/\t≠d/\tget tmB t=rnt false τ s.hp (tget s.tm t)/\rntP false τ s.hp (tget s.tm t)/\∀d∈rntR false τ s.hp (tget s.tm t),False))
  (hround:∀i,i<xs.length->∀(w:World) (e:Env) (rd:Option Nat) (X:Act->World->Prop),COk ⟨C.P,C.N,w,e,rd,[],X⟩ T->
   awp ⟨C.P,C.N,w,e,rd,[],X⟩ body (QRnd (hpf (i+1))) ⟨(d,I (xs.getD (xs.length - 1 - i) 0))::(p1,I ((xs.length:Int) - 1 - i))::(p2,I (xs.getD (xs.length - 1 - i) 0))::tmB,hpf i,1⟩)
  {hpE:Hp} (hb1:rnHP false (τ.map fun q=>(q.1,q.2.2.2,q.1,0)) (hpf xs.length) (τ.map fun q=>(q.1,q.2.2.2,q.1,0))) (hb2:∀d∈rnHR false (τ.map fun q=>(q.1,q.2.2.2,q.1,0)) (hpf xs.length) (τ.map fun q=>(q.1,q.2.2.2,q.1,0)),False)
  (hb3:rnH false (τ.map fun q=>(q.1,q.2.2.2,q.1,0)) (hpf xs.length)=hpE)
  (fn:Func) (hp':Hp) (r:AV) (hesc:∀a' w',EscG C.P fn C.w0 C.e0 hp' r a' w'->C.esc a' w')
  (hc:∀(w:World) (e:Env) (df:List Deferred) (X:Act->World->Prop),COk ⟨C.P,C.N,w,e,none,df,X⟩ T->awp ⟨C.P,C.N,w,e,none,df,X⟩ c (QRetR T fn.results.toList hp' r) ⟨s.tm,hpE,s.ck⟩):
  awp2 C (.block id (.rangeFunc g #[p1,p2] assign body)) c Q s:=by
 intro a w hr
 rw[hrd,fen_none]
 obtain⟨e,h1,hln,hv⟩:=hr.body
 have had:a.defers=[]:=hr.defers.trans hdf
 have has:a.tmps.size=C.N:=hr.size
 have hev:=ev_ok (s:=s) hv g
 rw[hg] at hev
 obtain⟨vs,heq,hvs,hvr⟩:=fn_inv hev
 have hvs1:vs.size=1:=by simpa using hvs.symm
 obtain⟨bx,off,f,hp0,hbU,hbs,hbc,hb1',hbv⟩:=(hvr 0 (by simp)).ptI_inv.ptI_inv
 have hvs':vs=#[.pointer (some ⟨bx,off,none⟩)]:=by
  refine Array.ext (by simp[hvs1]) fun i hi hi'=>?_
  have hi0:i=0:=by simp at hi';exact hi'
  subst hi0
  have:vs.getD 0 undef=vs[0]:=by simp[Array.getD_eq_getD_getElem?,hi]
  rw[<-this];simpa using hp0
 subst hvs'
 have hVD0:VD w (UE e) (.ptI [IS xs]) (.pointer (some ⟨bx,off,none⟩)):= .ptI _ bx off f hbU hbs hbc hb1' hbv
 refine wpIn_block (wpIn_rangeFunc ?_)
 intro fn' _
 obtain⟨L,hL⟩:∃L:Loop,L={state:= .ready,pending:=none,fn:=fn',tmps:=a.tmps,params:=#[p1,p2],assign,body,defers:=w.heap.size}:=⟨_,rfl⟩
 obtain⟨ep,hep⟩:∃ep,ep=ezz e (fun b=>e.z b\/b=w.heap.size\/b=w.heap.size+1):=⟨_,rfl⟩
 obtain⟨k1,k2⟩:=h1.zmore (w':=lay w L) (z':=fun b=>e.z b\/b=w.heap.size\/b=w.heap.size+1) (fun b hb=> .inl hb) (fun b hb hz=>hz.elim (fun h=>h) (by omega)) (by rw[lay_size];omega) (fun b hb=>lay_old w L hb)
 rw[<-hep] at k1 k2
 have epz:ep.z=fun b=>e.z b\/b=w.heap.size\/b=w.heap.size+1:=by rw[hep];rfl
 have zlt:∀b,ep.z b->b<(lay w L).heap.size:=fun b hb=>by
  rw[epz] at hb
  rw[lay_size]
  rcases hb with hb|hb
  ·rw[hln.zeq] at hb
   have:=hln.zlt b hb
   have:=hr.frm.size
   omega
  ·omega
 have rk:RnOk false ep s.hp (Glt 1) τ [] ep.z:=⟨hτ,hpP,fun d hd=>(hpR d hd).elim,fun d hd=>(by cases hd),fun q hq=>by rw[(hτ0 q hq).1];exact Nat.zero_lt_one,fun _ h=>h,fun _ h=> .inl h⟩
 obtain⟨e0,he0⟩:∃e0,e0=eN τ ep ep.z:=⟨_,rfl⟩
 have r0:=rk.rel k1
 have fz0:=(rk.frz k1).un
 rw[h0] at r0
 rw[<-he0] at r0 fz0
 have e0z:e0.z=ep.z:=by rw[he0];rfl
 have own0:∀b,OwnB e0 b->OwnB ep b:=fun b ho=>by
  rw[he0] at ho
  obtain⟨q,_,h⟩:=eN_own ho;exact h.own
 have zl:e0.z (w.heap.size+1):=by rw[e0z,epz];exact .inr (.inr rfl)
 have hVD1:VD (lay w L) (UE e0) (.ptI [IS xs]) (.pointer (some ⟨bx,off,none⟩)):=hVD0.mono k2.size (fun b hb hu=>fz0 b (k2.un b hb hu)) k2.same
 have hgl0:GOk T (lay w L) (UE e0):=(hC.gl.mono hln.ext.size hln.ext.un hln.ext.same).mono k2.size (fun b hb hu=>fz0 b (k2.un b hb hu)) k2.same
 have rd0:Rd (lay w L) e0 L (w.heap.size+1) (hpf 0) (lay w L) e0:=⟨r0,Ext.refl _ _ _,rfl,fun _ h=> .inr h,rfl,rfl,rfl,fun _ _ _ _=>rfl,lay_l w L⟩
 have tmE:∀t,VR (lay w L) (UE e0) e0 (Glt 1) (tget tmB t) (if t≠p1/\t≠p2/\t≠d then a.tmps.getD t undef else undef):=fun t=>by
  rcases htmB t with h|⟨h2,h3,h4,h5,h6,h7⟩
  ·rw[h];exact .dat _ _ (.bad _)
  ·rw[if_pos ⟨h2,h3,h4⟩,h5,he0]
   exact rk.vrt k1 ((hv t).ext k2) h6 fun d hd=>(h7 d hd).elim
 refine⟨w.heap.size+1,[markOf w.heap.size],lay w L,{target:= .fn (.func fb) #[.pointer (some ⟨bx,off,none⟩)],args:=#[.func (.yield (w.heap.size+1)) #[] #[]]},lay w L,fb,
  #[.func (.yield (w.heap.size+1)) #[] #[]]++#[.pointer (some ⟨bx,off,none⟩)],lay w L,?_,?_,fun _ _=>trivial,?_,fun h=>(by cases h),?_⟩
 ·have:=run_enterLoop_outer (P:=C.P) (w:=w) fn' a.tmps #[p1,p2] assign body
  rw[hL];exact this
 ·simp only[resolve,heq]
  simp[go_sem]
 ·obtain⟨fn1,hfn1,hfn2,hfn3⟩:=hbk.1
  simp only[invoke,callFunc,Sem.run_bind,Sem.run_pure,Result.andThen_ok,run_program,hfn1,hfn2,hfn3,Bool.false_eq_true,if_false]
 ·refine(hbk.2 (w.heap.size+1) bx off xs (fun i W=>∃e',Rd (lay w L) e0 L (w.heap.size+1) (hpf i) W e') (lay w L) hxl ⟨e0,rd0⟩ ?_ ?_).mono ?_
  ·rintro i W ⟨e',hrd'⟩
   exact⟨UE e',hVD1.mono hrd'.ext.size hrd'.ext.un hrd'.ext.same⟩
  ·rintro i W hi ⟨e',hrd'⟩
   have hy:=run_yield (P:=C.P) (args:=#[.int .i64 ((xs.length:Int) - 1 - i), .int .i64 (xs.getD (xs.length - 1 - i) 0)]) hrd'.rec_ (by rw[hL];rfl)
   refine⟨fn',(a.tmps.setIfInBounds p1 (.int .i64 ((xs.length:Int) - 1 - i))).setIfInBounds p2 (.int .i64 (xs.getD (xs.length - 1 - i) 0)),assign,body,by rw[hy,hL];simp,roundIn_of_wpIn trivial ?_⟩
   refine hassign (w.heap.size+1) _ W _ ?_
   have hlt:w.heap.size+1<W.heap.size:=(Array.getElem?_eq_some_iff.1 hrd'.rec_).1
   refine⟨_,run_beginRound hrd'.rec_ (by rw[hL]),?_⟩
   have hbusy:=hrd'.zwr (W':=W.putObj (w.heap.size+1) (.loop {L with state:= .busy})) (L':={L with state:= .busy}) zl putObj_size (fun b hb=>putObj_other hb) (World.putObj_heap_same hlt) rfl rfl rfl
   have:=rd_round (C:=C) (N:=C.N) hC.ty hgl0 hbusy zl (by rw[e0z];exact zlt) (s:=⟨(d,I (xs.getD (xs.length - 1 - i) 0))::(p1,I ((xs.length:Int) - 1 - i))::(p2,I (xs.getD (xs.length - 1 - i) 0))::tmB,hpf i,1⟩) rfl rfl
    (a:={tmps:=((a.tmps.setIfInBounds p1 (.int .i64 ((xs.length:Int) - 1 - i))).setIfInBounds p2 (.int .i64 (xs.getD (xs.length - 1 - i) 0))).setIfInBounds d (((a.tmps.setIfInBounds p1 (.int .i64 ((xs.length:Int) - 1 - i))).setIfInBounds p2 (.int .i64 (xs.getD (xs.length - 1 - i) 0))).getD p2 undef),defers:=[]}) rfl (by simp[has]) ?_ (hround i hi)
   ·refine wpIn_mono this ?_
    rintro ex a3 W3 ⟨rfl,e'',hrd3⟩
    have hlt3:w.heap.size+1<W3.heap.size:=(Array.getElem?_eq_some_iff.1 hrd3.rec_).1
    refine⟨_,_,run_endRound none hrd3.rec_,rfl,e'',hrd3.zwr zl putObj_size (fun b hb=>putObj_other hb) ?_ rfl rfl rfl⟩
    rw[World.putObj_heap_same hlt3,hL]
    rfl
   ·intro t
    have e2:((a.tmps.setIfInBounds p1 (.int .i64 ((xs.length:Int) - 1 - i))).setIfInBounds p2 (.int .i64 (xs.getD (xs.length - 1 - i) 0))).getD p2 undef= .int .i64 (xs.getD (xs.length - 1 - i) 0):=by
     rw[Array.getD_eq_getD_getElem?,Array.getElem?_setIfInBounds_self_of_lt (by simp[has];exact hp2)];rfl
    rw[e2]
    simp only[tget]
    by_cases ht1:d=t
    ·subst ht1
     rw[if_pos rfl,Array.getD_eq_getD_getElem?,Array.getElem?_setIfInBounds_self_of_lt (by simp[has];exact hdN)]
     exact .dat _ _ (.lit _ rfl)
    ·rw[if_neg ht1,Array.getD_eq_getD_getElem?,Array.getElem?_setIfInBounds_ne ht1]
     by_cases ht2:p1=t
     ·subst ht2
      rw[if_pos rfl,Array.getElem?_setIfInBounds_ne (Ne.symm hp12),Array.getElem?_setIfInBounds_self_of_lt (by rw[has];exact hp1)]
      exact .dat _ _ (.lit _ rfl)
     ·rw[if_neg ht2]
      by_cases ht3:p2=t
      ·subst ht3
       rw[if_pos rfl,Array.getElem?_setIfInBounds_self_of_lt (by simp[has];exact hp2)]
       exact .dat _ _ (.lit _ rfl)
      ·rw[if_neg ht3,Array.getElem?_setIfInBounds_ne ht3,Array.getElem?_setIfInBounds_ne ht2,<-Array.getD_eq_getD_getElem?]
       have:=(tmE t).ext hbusy.ext
       rw[if_pos ⟨Ne.symm ht2,Ne.symm ht3,Ne.symm ht1⟩] at this
       exact this
  ·rintro en W' ⟨⟨v,rfl⟩,e',hrd'⟩
   have hlt:w.heap.size+1<W'.heap.size:=(Array.getElem?_eq_some_iff.1 hrd'.rec_).1
   have hpn:L.pending=none:=by rw[hL]
   obtain⟨Lx,hLx⟩:∃Lx:Loop,Lx={L with state:= .exhausted}:=⟨_,rfl⟩
   have hel:=run_endLoop (P:=C.P) hrd'.rec_ (by rw[hL];simp)
   rw[<-hLx,hpn] at hel
   refine⟨none,_,hel,?_⟩
   have hend:=hrd'.zwr (W':=W'.putObj (w.heap.size+1) (.loop Lx)) (L':=Lx) zl putObj_size (fun b hb=>putObj_other hb) (World.putObj_heap_same hlt) rfl rfl rfl
   show c.wpIn Fence.wide 0 C.P _ _ _
   obtain⟨σb,hσb⟩:∃σb:Nm,σb=τ.map fun q=>(q.1,q.2.2.2,q.1,0):=⟨_,rfl⟩
   rw[<-hσb] at hb1 hb2 hb3
   have nb:NmOk σb:=by
    rw[hσb]
    refine⟨?_,?_⟩
    ·rw[List.map_map];exact hτ.n1
    ·rw[List.map_map];exact hτ.n1
   have memb:∀q∈σb,∃q0∈τ,q=(q0.1,q0.2.2.2,q0.1,0):=fun q hq=>by
    rw[hσb] at hq
    obtain⟨q0,h1,h2⟩:=List.mem_map.1 hq
    exact⟨q0,h1,h2.symm⟩
   have rkb:RnOk false e' (hpf xs.length) (Glt s.ck) σb [] e'.z:=⟨nb,hb1,fun d hd=>(hb2 d hd).elim,fun d hd=>(by cases hd),fun q hq=>by
    obtain⟨q0,h3,rfl⟩:=memb q hq
    obtain⟨ob,h4,_⟩:=rnHP_all hpP (show(q0.1,q0.2.1,q0.2.2.1,q0.2.2.2)∈τ from h3)
    obtain⟨ee,h5,h6,h7,_⟩:=k1.live _ _ _ h4
    exact h7,fun _ h=>h,fun _ h=> .inl h⟩
   have hrE:=rkb.rel hend.hr
   have fzE:=(rkb.frz hend.hr).un
   rw[hb3] at hrE
   have ownE:∀b,OwnB (eN σb e' e'.z) b->OwnB e' b:=fun b ho=>by
    obtain⟨q,_,h⟩:=eN_own ho;exact h.own
   have sz1:((lay w L).putObj (w.heap.size+1) (.loop Lx)).heap.size=w.heap.size+2:=by rw[putObj_size,lay_size]
   have szE:w.heap.size+2<=(W'.putObj (w.heap.size+1) (.loop Lx)).heap.size:=by have:=hend.ext.size;rw[lay_size] at this;exact this
   have sameE:∀b,b<w.heap.size+2->¬OwnB e0 b->(W'.putObj (w.heap.size+1) (.loop Lx)).heap[b]?=((lay w L).putObj (w.heap.size+1) (.loop Lx)).heap[b]?:=fun b hb ho=>by
    by_cases hbl:b=w.heap.size+1
    ·subst hbl
     rw[World.putObj_heap_same hlt,World.putObj_heap_same (by rw[lay_size];omega)]
    ·rw[putObj_other hbl,putObj_other hbl]
     exact hrd'.same b (by rw[lay_size];exact hb) hbl ho
   have own0':∀b,¬OwnB ep b->¬OwnB e0 b:=fun b h ho=>h (own0 b ho)
   have E2:Ext ((lay w L).putObj (w.heap.size+1) (.loop Lx)) ep (Glt s.ck) (W'.putObj (w.heap.size+1) (.loop Lx)) (eN σb e' e'.z) (Glt s.ck):=by
    refine⟨by rw[sz1];exact szE,fun _ h=>h,fun b hb hu=>fzE b (hend.ext.un b (by rw[lay_size];rw[sz1] at hb;exact hb) (fz0 b hu)),fun b hb hu=>sameE b (by rw[sz1] at hb;exact hb) (own0' b hu.2),fun id ee' he' hg=>?_⟩
    obtain⟨gi,a1,ga,ee,hm,h6,rfl⟩:=eN_some he'
    obtain⟨q0,h3,h4⟩:=memb _ hm
    cases h4
    obtain⟨ob,h7,_⟩:=rnHP_all hb1 hm
    obtain⟨ee2,h8,h9,_⟩:=hend.hr.live _ _ _ h7
    rw[h6] at h8;cases h8
    obtain⟨ee0,m1,m2,m3,m4⟩:=hend.ext.ent _ ee h6 (by rw[h9];exact Nat.zero_lt_one)
    rw[he0] at m1
    obtain⟨gj,aj,gaj,eej,hmj,h10,rfl⟩:=eN_some m1
    have h11:=NmOk.bw hτ.n1 hmj
    have h12:=NmOk.bw hτ.n1 (show(q0.1,q0.2.1,q0.2.2.1,q0.2.2.2)∈τ from h3)
    rw[h11] at h12
    cases h12
    have h13:=(hτ0 q0 h3).2
    obtain⟨ob2,h14,_⟩:=rnHP_all hpP (show(q0.1,q0.2.1,q0.2.2.1,q0.2.2.2)∈τ from h3)
    obtain⟨ee3,h15,h16,_⟩:=k1.live _ _ _ h14
    rw[h10] at h15;cases h15
    exact⟨eej,by rw[h13];exact h10,h16,m3,m4⟩
   obtain⟨k3,k4⟩:=k1.zwr (w':=(lay w L).putObj (w.heap.size+1) (.loop Lx)) putObj_size (fun b hb=>putObj_other (by rintro rfl;exact hb (by rw[epz];exact .inr (.inr rfl))))
   have hrelE:∀X,RelS ⟨C.P,C.N,(lay w L).putObj (w.heap.size+1) (.loop Lx),ep,none,[markOf w.heap.size],X⟩ ⟨s.tm,hpE,s.ck⟩ ({a with defers:=[markOf w.heap.size]++a.defers}:Act) (W'.putObj (w.heap.size+1) (.loop Lx)):=fun X=>by
    refine⟨by rw[had];rfl,has,⟨hend.os,hend.tape,hend.output,by show((lay w L).putObj (w.heap.size+1) (.loop Lx)).heap.size<=_;rw[sz1];exact szE,fun b hb ho=>?_⟩,eN σb e' e'.z,hrE,⟨hend.z.trans e0z,fun b hb=>?_,?_,fun b hb=>?_⟩,fun t=>((hv t).ext (k2.trans k4)).ext E2⟩
    ·exact sameE b (by have h:b<((lay w L).putObj (w.heap.size+1) (.loop Lx)).heap.size:=hb;rw[sz1] at h;exact h) (own0' b ho)
    ·show b<((lay w L).putObj (w.heap.size+1) (.loop Lx)).heap.size
     rw[putObj_size];exact zlt b hb
    ·have hck:∀id ee',(eN σb e' e'.z) id=some ee'->Glt 1 ee'.g->Glt s.ck ee'.g:=fun id ee' he' _=>hrE.gen id ee' he'
     exact⟨E2.size,fun g hg=>by
      by_cases hs0:0<s.ck
      ·exact Nat.lt_of_lt_of_le hg hs0
      ·exact absurd (hln.ext.gs g hg) (by unfold Glt;omega),E2.un,E2.same,fun id ee' he' hg=>E2.ent id ee' he' (hck id ee' he' hg)⟩
    ·rcases hend.own b (ownE b hb) with h|h
     ·refine .inl ?_
      show((lay w L).putObj (w.heap.size+1) (.loop Lx)).heap.size<=b
      rw[putObj_size];exact h
     ·exact .inr (own0 b h)
   have hCE:COk ⟨C.P,C.N,(lay w L).putObj (w.heap.size+1) (.loop Lx),ep,none,[markOf w.heap.size],fun _ _=>False⟩ T:=⟨hC.ty,((hC.gl.mono hln.ext.size hln.ext.un hln.ext.same).mono k2.size k2.un k2.same).mono k4.size k4.un k4.same⟩
   refine wpIn_mono (hc _ _ _ _ hCE _ _ (hrelE _)) ?_
   rintro ex a' w' (⟨s',hr',hq⟩|⟨_,hf⟩)
   ·cases ex<;>first|exact hq.elim|skip
    rw[hep] at hr'
    exact .inr ⟨rfl,hesc _ _ (esc_of hC.ty hln hr.frm (fun b hb=>⟨h1.own_lt hb,h1.own_nz hb⟩) hr' hq)⟩
   ·exact hf.elim
end
open Go Go.Great
theorem krows_trF {t:Nat} {l:List (List Int)} (L:List Nat):(∀e∈krows t l,∀c∈e.cells,trA false L c)=True:=krows_all fun r=> .inl rfl
attribute [go_sem] krows_trF
section
variable {C:Cx} {T:Tab}
theorem VR.nil_inv {w:World} {e:Env} {G:Nat->Prop} {v:Value} (h:VR w (UE e) e G (.sl [] true) v):∃a,v= .slice a 0 0:=by
 obtain⟨a,cap,rfl,_,hc⟩:=h.slice_cap
 rw[hc rfl]
 exact⟨a,rfl⟩
theorem awp_nil0 {c:Code} {Q:Exit->St->Prop} {s:St} (nid bid gb t k j:Nat) {cs:List AV} (hk:0<k) (hb:s.hp.get bid=some (gb, .box cs)) (hj:cs.getD j .bad= .sl [] true) (hn:s.hp.get nid=none)
  (h:awp C c Q ⟨s.tm,(bid,some (gb, .box (cs.set j (.slO nid s.ck 0 0))))::(nid,some (s.ck, .own t k []))::s.hp,s.ck+1⟩):awp C c Q s:=by
 intro a w hr
 refine h a w ?_
 obtain⟨e,h1,hln,hv⟩:=hr.body
 have p:Pre C e (Glt s.ck) s.ck s.hp w:=⟨h1,hln,hr.frm,by simp[Glt]⟩
 have hne:bid≠nid:=by rintro rfl;rw[hn] at hb;cases hb
 have hjl:j<cs.length:=by
  by_cases hjl:j<cs.length
  ·exact hjl
  ·rw[List.getD_eq_getElem?_getD,List.getElem?_eq_none (by omega)] at hj;cases hj
 have hlit:∃av,∀(ee:EE) b c (vs:Array Value) t,e bid=some ee->ee.blk=some (b,c)->w.heap[b]?=some (.cells vs t (0,0))->vs.getD j undef= .slice av 0 0:=by
  obtain⟨ee,he,_,_,hbo⟩:=h1.live _ _ _ hb
  obtain⟨_,_,b,c',vs,t',hb2,hb3,hb4,hb5⟩:=hbo
  have e1:cs[j]= .sl [] true:=by rw[List.getD_eq_getElem?_getD,List.getElem?_eq_getElem hjl] at hj;exact hj
  have:=hb5 j hjl
  rw[e1] at this
  obtain⟨av,hav⟩:=this.nil_inv
  refine⟨av,fun ee1 b1 c1 vs1 t1 h1 h2 h3=>?_⟩
  rw[he] at h1;cases h1
  rw[hb2] at h2;cases h2
  rw[hb3] at h3;cases h3
  exact hav
 obtain⟨av,hav0⟩:=hlit
 have hok:=mk_obj (P:=True) (v:= .slO nid s.ck 0 0) (xv:= .slice av 0 0) p (Grow.refl w) (did:=nid) (ee:=⟨s.ck,none,k,0⟩) rfl (fun b c hb=>by cases hb) (ob:= .own t k []) ⟨rfl,rfl,hk,fun i hi=>by simp at hi,fun i hi=>by simp at hi,rfl⟩
  (.slO _ _ _ _ _ (.inr rfl) rfl fun ee he _=>by
   rw[eset_same] at he;cases he
   exact⟨Nat.le_refl _,fun _=>⟨rfl,rfl,av,rfl⟩⟩)
 obtain⟨nx,w',e',q1,q2,q3,q4,q5,q6⟩:=hok
 cases q1
 have hsl:VR w (UE e') e' (gadd (Glt s.ck) s.ck) (.slO nid s.ck 0 0) (.slice av 0 0):=by
  rcases q6 with ⟨xv,h3,h4⟩|⟨h3,_⟩
  ·cases h3;exact h4
  ·cases h3
 obtain⟨eb,hbe,hbg,hgb,hbo⟩:=q2.live bid gb (.box cs) (by rw[List.cons_append,List.nil_append,Hp.get_cons_other _ _ hne];exact hb)
 obtain⟨hbn,hb1,b,c',vs,t',hb2,hb3,hb4,hb5⟩:=hbo
 have gg:gadd (Glt s.ck) s.ck=Glt (s.ck+1):=gadd_Glt _
 have hav:vs.getD j undef= .slice av 0 0:=by
  have e1:cs[j]= .sl [] true:=by rw[List.getD_eq_getElem?_getD,List.getElem?_eq_getElem hjl] at hj;exact hj
  obtain⟨ee,he,hg0,_,hbo0⟩:=h1.live _ _ _ hb
  obtain⟨ee1,m1,m2,m3,m4⟩:=q3.ent bid eb hbe (by rw[hbg,<-hg0];exact h1.gen _ _ he)
  obtain⟨hn0,_⟩:=hbo0
  rw[he] at m1;cases m1
  rcases m4 with ⟨m4,m5⟩|m4
  ·exact hav0 _ b c' vs t' he (m5.trans hb2) hb3
  ·omega
 rw[gg] at q2 q3 q4 hb5 hsl
 have hr2:HRel w e' (Glt (s.ck+1)) ((bid,some (gb, .box (cs.set j (.slO nid s.ck 0 0))))::(nid,some (s.ck, .own t k []))::s.hp):=by
  refine q2.step (fun i=>i=bid) (Ext.refl _ _ _) rfl (fun i hi=>⟨rfl,Hp.get_cons_other _ _ hi⟩) (fun _ _ _ _ _ _ _=>⟨rfl,fun _ _ h=>⟨rfl,h⟩⟩) (fun i hi hn=>?_) (fun i g' ob hi hg=>?_) (fun i ee b1 c1 hi he hb1=>?_) q2.kl q2.ko q2.kk
  ·subst hi;rw[Hp.get_cons_same] at hn;cases hn
  ·subst hi
   rw[Hp.get_cons_same] at hg
   cases hg
   refine⟨eb,hbe,hbg,by rw[<-hbg];exact q2.gen _ _ hbe,hbn,fun i hi=>?_,b,c',vs,t',hb2,hb3,by simpa using hb4,fun i hi=>?_⟩
   ·rw[List.getElem_set]
    split
    ·rfl
    ·exact hb1 _ _
   ·have hi':i<cs.length:=by simpa using hi
    rw[List.getElem_set]
    split
    ·next hji=>subst hji;rw[hav];exact hsl
    ·exact hb5 i hi'
  ·exact⟨q2.lt _ _ _ _ he hb1,q2.nz _ _ _ _ he hb1,fun i' ee' c2 he' hb'=>by rw[hi] at*;exact q2.inj _ _ _ _ _ _ _ he' he hb' hb1⟩
 exact⟨hr.defers,hr.size,hr.frm,e',hr2,q4,fun t=>(hv t).ext q3⟩
theorem callE {P:Program} {T:Tab} {f:FuncId} {g:Nat} {hp:Hp} {vs:List AV} {K:AV->List Up->List Nat->Prop} {rc:AV} (τ σ:Nm) (keep:Bool) {hpA hp1:Hp} {as1:List AV} (h:SatG P T f hpA as1 hp1 rc)
  (e1:rnH true τ hp=hpA) (e2:vs.map (rnt true τ hp)=as1) (hn1:(τ.map (·.1)).Nodup) (hn2:(τ.map (·.2.2.1)).Nodup) (hg:∀q∈τ,q.2.1=0) (hP:rnHP true τ hp τ) (hs:ShP τ hp vs)
  (hd:∀d∈rnHR true τ hp τ++vs.flatMap (rntR true τ hp),lk τ d=none)
  (hm1:(σ.map (·.1)).Nodup) (hm2:(σ.map (·.2.2.1)).Nodup) (hgs:∀q∈σ,(q.2.2.2=0/\(q.2.2.1,0,q.1,q.2.1)∈τ)\/(q.2.2.2=1/\q.2.1=g))
  (hbP:rnHP false σ hp1 σ) (hbR:rnHR false σ hp1 σ=[]) (hrP:rntP false σ hp1 rc) (hrR:rntR false σ hp1 rc=[])
  (ht1:trH keep (touched τ σ (rnHR true τ hp τ++vs.flatMap (rntR true τ hp)) keep) (rnH false σ hp1)) (ht2:trt keep (touched τ σ (rnHR true τ hp τ++vs.flatMap (rntR true τ hp)) keep) (rnt false σ hp1 rc))
  (hK:K (rnt false σ hp1 rc) (rnH false σ hp1++drops ((touched τ σ (rnHR true τ hp τ++vs.flatMap (rntR true τ hp)) keep).filter fun i=>!(σ.map (·.1)).contains i)) (τ.map (·.2.2.1)++(rnHR true τ hp τ++vs.flatMap (rntR true τ hp)))):CallK P T f g hp vs K:=
 callG τ σ keep hn1 hn2 hg hP hs hd (by rw[e1,e2];exact h) hm1 hm2 hgs hbP hbR hrP hrR ht1 ht2 hK
theorem tmB_of {τ:Nm} {hp:Hp} {tm:List (Nat×AV)} {p1 p2 d:Nat}:∀{tmB:List (Nat×AV)},(∀q∈tmB,q.1≠p1/\q.1≠p2/\q.1≠d/\q.2=rnt false τ hp (tget tm q.1)/\rntP false τ hp (tget tm q.1)/\rntR false τ hp (tget tm q.1)=[])->
  ∀t,tget tmB t= .bad\/(t≠p1/\t≠p2/\t≠d/\tget tmB t=rnt false τ hp (tget tm t)/\rntP false τ hp (tget tm t)/\∀d∈rntR false τ hp (tget tm t),False)
 |[],_,_=> .inl rfl
 |(i,x)::l,h,t=>by
  simp only[tget]
  by_cases hi:i=t
  ·subst hi
   rw[if_pos rfl]
   obtain⟨h1,h2,h3,h4,h5,h6⟩:=h _ List.mem_cons_self
   exact .inr ⟨h1,h2,h3,h4,h5,fun d hd=>by rw[h6] at hd;cases hd⟩
  ·rw[if_neg hi]
   exact tmB_of (fun q hq=>h q (List.mem_cons_of_mem _ hq)) t
theorem qrnd_of {s:St} {hp':Hp} (σ:Nm) (hn1:(σ.map (·.1)).Nodup) (hn2:(σ.map (·.2.2.1)).Nodup) (hg:∀q∈σ,q.2.1=0/\q.2.2.1=q.1/\q.2.2.2=0) (hP:rnHP true σ s.hp σ)
  (hd:∀d∈rnHR true σ s.hp σ,lk σ d=none) (he:rnH true σ s.hp=hp'):QRnd hp' .normal s:=
 ⟨σ,rnHR true σ s.hp σ,⟨hn1,hn2⟩,hg,hP,fun _ h=>h,hd,he⟩
theorem awp2_backL (τ:Nm) (hpf:Nat->Hp) (tmB:List (Nat×AV)) (fn:Func) {hpE:Hp} {hp':Hp} {r:AV} {fb:FuncId} {id p1 p2 d:Nat} {g:Operand} {assign body c:Code} {s:St} {xs:List Int} {Q:Exit->St->Prop}
  (hC:COk C T) (hrd:C.rd=none) (hdf:C.df=[]) (hbk:BackOk C.P fb)
  (hxl:xs.length<=9223372036854775807) (hg:s.ev g= .fn fb [.ptI [IS xs]]) (hp:p1<C.N/\p2<C.N/\d<C.N/\p1≠p2/\d≠p1/\d≠p2)
  (hassign:∀(l:Nat) (tm:Array Value) (w:World) (K:Act->World->Prop),K {tmps:=tm.setIfInBounds d (tm.getD p2 undef),defers:=[]} w->assign.wpIn (fen (some l)) 0 C.P (Exit.then K fun _ _ _=>False) {tmps:=tm,defers:=[]} w)
  (hτ1:(τ.map (·.1)).Nodup) (hτ2:(τ.map (·.2.2.1)).Nodup) (hτ0:∀q∈τ,q.2.1=0/\q.1=q.2.2.1) (hpP:rnHP false τ s.hp τ) (hpR:rnHR false τ s.hp τ=[]) (h0:rnH false τ s.hp=hpf 0)
  (htmB:∀q∈tmB,q.1≠p1/\q.1≠p2/\q.1≠d/\q.2=rnt false τ s.hp (tget s.tm q.1)/\rntP false τ s.hp (tget s.tm q.1)/\rntR false τ s.hp (tget s.tm q.1)=[])
  (hb1:rnHP false (τ.map fun q=>(q.1,q.2.2.2,q.1,0)) (hpf xs.length) (τ.map fun q=>(q.1,q.2.2.2,q.1,0))) (hb2:rnHR false (τ.map fun q=>(q.1,q.2.2.2,q.1,0)) (hpf xs.length) (τ.map fun q=>(q.1,q.2.2.2,q.1,0))=[])
  (hb3:rnH false (τ.map fun q=>(q.1,q.2.2.2,q.1,0)) (hpf xs.length)=hpE)
  (hesc:∀a' w',EscG C.P fn C.w0 C.e0 hp' r a' w'->C.esc a' w')
  (hround:∀i,i<xs.length->∀(w:World) (e:Env) (rd:Option Nat) (X:Act->World->Prop),COk ⟨C.P,C.N,w,e,rd,[],X⟩ T->
   awp ⟨C.P,C.N,w,e,rd,[],X⟩ body (QRnd (hpf (i+1))) ⟨(d,I (xs.getD (xs.length - 1 - i) 0))::(p1,I ((xs.length:Int) - 1 - i))::(p2,I (xs.getD (xs.length - 1 - i) 0))::tmB,hpf i,1⟩)
  (hc:∀(w:World) (e:Env) (df:List Deferred) (X:Act->World->Prop),COk ⟨C.P,C.N,w,e,none,df,X⟩ T->awp ⟨C.P,C.N,w,e,none,df,X⟩ c (QRetR T fn.results.toList hp' r) ⟨s.tm,hpE,s.ck⟩):
  awp2 C (.block id (.rangeFunc g #[p1,p2] assign body)) c Q s:=
 awp2_back hC hrd hdf hbk hxl hg hp.1 hp.2.1 hp.2.2.1 hp.2.2.2.1 hp.2.2.2.2.1 hp.2.2.2.2.2 hassign τ ⟨hτ1,hτ2⟩ hτ0 hpP (fun d hd=>by rw[hpR] at hd;cases hd) hpf h0 tmB (tmB_of htmB) hround hb1
  (fun d hd=>by rw[hb2] at hd;cases hd) hb3 fn hp' r hesc hc
theorem assign_one {P:Program} {id d p2:Nat} {ty:TypeId} {pos:String} {after:Array Edge} (l:Nat) (tm:Array Value) (w:World) (K:Act->World->Prop) (h:K {tmps:=tm.setIfInBounds d (tm.getD p2 undef),defers:=[]} w):
  (Code.region id #[{dst:=some d,op:= .assign (.tmp p2),type:=ty,pos:=pos,after:=after,guard:=none}] false).wpIn (fen (some l)) 0 P (Exit.then K fun _ _ _=>False) {tmps:=tm,defers:=[]} w:=by
 refine wpIn_region_lit (l:=[{dst:=some d,op:= .assign (.tmp p2),type:=ty,pos:=pos,after:=after,guard:=none}]) ?_
 unfold wpListIn
 rw[if_pos (wanted_none rfl _)]
 refine⟨fun _ _=>trivial,?_⟩
 rw[Oper.semAt_eq _ _ _ (by intro c h;cases h)]
 exact h
end
end Go.Sym
namespace Go.Proofs.YtkhjenddapaejaaGreatDoor
open Go Go.Sym
theorem getD_setI (tm:Array Value) (i j:Nat) (v:Value):(tm.setIfInBounds i v).getD j undef=if i=j/\i<tm.size then v else tm.getD j undef:=by
 rw[Array.getD_eq_getD_getElem?,Array.getD_eq_getD_getElem?,Array.getElem?_setIfInBounds]
 by_cases h:i=j
 ·subst h
  by_cases h2:i<tm.size
  ·simp[h2]
  ·simp[h2]
 ·simp[h]
section
variable {P:Program} {ops:Array Oper} {Q:Exit->Act->World->Prop} {a:Act} {w w':World} {rest:List Oper} {o:Oper} {v:Value}
theorem wl_val (hg:o.guard=none) (hd:∀c,o.op≠ .defer c) (h:(execOp a.eval o).run P w= .ok (.value v) w') (hn:wpListIn Fence.wide 0 P ops Q rest (a.put o.dst v) w'):wpListIn Fence.wide 0 P ops Q (o::rest) a w:=by
 unfold wpListIn
 rw[if_pos (wanted_none hg _)]
 refine⟨fun _ _=>trivial,?_⟩
 rw[Oper.semAt_eq _ _ _ hd,h,Oper.uponIn_value]
 exact hn
end
section
variable {P:Program} {a:Act} {w:World} {dst:Option Tmp} {type:TypeId} {pos:String} {after:Array Edge} {guard:Option (Nat×Bool)}
theorem x_move {x:Operand} {v:Value} (h:a.eval x=v):(execOp a.eval ⟨dst, .move x,type,pos,after,guard⟩).run P w= .ok (.value v) w:=by subst h;rfl
theorem x_assign {x:Operand} {v:Value} (h:a.eval x=v):(execOp a.eval ⟨dst, .assign x,type,pos,after,guard⟩).run P w= .ok (.value v) w:=by subst h;rfl
theorem x_load {t:TypeId} {x:Operand} {v0 v:Value} (h:a.eval x=v0) (hl:(Instr.loadAt t v0).run P w= .ok v w):(execOp a.eval ⟨dst, .load t x,type,pos,after,guard⟩).run P w= .ok (.value v) w:=by
 subst h
 exact(andThen_value _ _).trans (by rw[hl];rfl)
theorem x_idx {t:TypeId} {x y:Operand} {v0 v1 v:Value} (h:a.eval x=v0) (h1:a.eval y=v1) (hl:(Instr.indexAt t v0 v1).run P w= .ok v w):(execOp a.eval ⟨dst, .indexAddr t x y,type,pos,after,guard⟩).run P w= .ok (.value v) w:=by
 subst h h1
 exact(andThen_value _ _).trans (by rw[hl];rfl)
theorem x_len {t:TypeId} {x:Operand} {v0 v:Value} (h:a.eval x=v0) (hl:∀ty,(Builtin.len_ #[t] ty #[v0]).run P w= .ok v w):(execOp a.eval ⟨dst, .call {callee:= .builtin .len,args:=#[x],argTypes:=#[t]},type,pos,after,guard⟩).run P w= .ok (.value v) w:=by
 subst h
 have e1:(execOp a.eval ⟨dst, .call {callee:= .builtin .len,args:=#[x],argTypes:=#[t]},type,pos,after,guard⟩).run P w=((Builtin.len_ #[t] type #[a.eval x]).run P w).andThen fun v w=> .ok (.value v) w:=by
  simp[execOp,resolve,invoke,builtin]
 rw[e1,hl];rfl
theorem x_sub {x y:Operand} {m n:Int} {t u:TypeId} (h:a.eval x= .int .i64 m) (h1:a.eval y= .int .i64 n) (hb:-9223372036854775808<=m - n/\m - n<=9223372036854775807):(execOp a.eval ⟨dst, .binOp .sub t x y u,type,pos,after,guard⟩).run P w= .ok (.value (.int .i64 (m - n))) w:=by
 simp[execOp,h,h1,eqGuard,binOp,Op.intArith,wrap_i64 hb]
theorem x_geq {x y:Operand} {m n:Int} {t u:TypeId} (h:a.eval x= .int .i64 m) (h1:a.eval y= .int .i64 n):(execOp a.eval ⟨dst, .binOp .geq t x y u,type,pos,after,guard⟩).run P w= .ok (.value (.bool (decide (n<=m)))) w:=by
 simp[execOp,h,h1,eqGuard,binOp,Op.intCmp]
theorem x_round {x y z:Operand} {ts:Array TypeId} {l fn:Nat} {v1 v2:Value} {tmps:Array Value} {asg bd:Code} (h:a.eval x= .func (.yield l) #[] #[]) (h1:a.eval y=v1) (h2:a.eval z=v2) (hy:(Instr.yield l #[v1,v2]).run P w= .ok (.round l fn tmps asg bd) w):
  (execOp a.eval ⟨dst, .call {callee:= .value x,args:=#[y,z],argTypes:=ts},type,pos,after,guard⟩).run P w= .ok (.round l fn tmps asg bd) w:=by
 simp[execOp,resolve,invoke,Deferred.ofValue,h,h1,h2,hy]
theorem x_not {x:Operand} {b:Bool} {t:TypeId} (h:a.eval x= .bool b):(execOp a.eval ⟨dst, .unOp .not t x,type,pos,after,guard⟩).run P w= .ok (.value (.bool (!b))) w:=by
 simp[execOp,h,Op.unary]
end
theorem back_ok:BackOk Tryz.prog 144:=by
 refine⟨⟨Tryz.f144,Tryz.func144,by rfl,by rfl⟩,?_⟩
 intro l bx off xs J W0 hxl hJ0 hJ hround
 have hf22:=tab_ok.fits (t:=22) (by decide)
 have hf3:=tab_ok.fits (t:=3) (by decide)
 obtain⟨d22,hu22,hd22⟩:=hf22.under
 have hd22':d22= .slice 3:=hd22
 subst hd22'
 have rd:∀i W,J i W->∃sv,(Instr.loadAt 22 (.pointer (some ⟨bx,off,none⟩))).run Tryz.prog W= .ok sv W/\(∀ty,(Builtin.len_ #[22] ty #[sv]).run Tryz.prog W= .ok (.int .i64 xs.length) W)/\
   ∀j,j<xs.length->∃av,(Instr.indexAt 22 sv (.int .i64 (j:Nat))).run Tryz.prog W= .ok av W/\(Instr.loadAt 3 av).run Tryz.prog W= .ok (.int .i64 (xs.getD j 0)) W:=by
  intro i W hJi
  obtain⟨U,hVD⟩:=hJ i W hJi
  obtain⟨b,o,f,hp,hU,hb,hc,h1,hv⟩:=hVD.ptI_inv
  cases hp
  have hl:=run_loadAt hf22 W bx off f fun j hj=>hc j (show j<1 from hj)
  have hv0:=hv 0 (by simp)
  refine⟨f 0,?_,?_,?_⟩
  ·rw[hl];rfl
  ·intro ty
   rcases hv0.sl_inv with ⟨h0,a,ha⟩|⟨sb,so,cap,k,g,ha,_⟩
   ·have h0':ints xs=[]:=h0
    have:xs.length=0:=by rw[<-ints_length xs,h0'];rfl
    have ha':f 0= .slice a 0 0:=ha
    rw[ha',this]
    simp[Builtin.len_,run_underlying hu22,goInt]
   ·have ha':f 0= .slice (some ⟨sb,so,none⟩) (ints xs).length cap:=ha
    rw[ha',ints_length]
    simp[Builtin.len_,run_underlying hu22,goInt]
  ·intro j hj
   rcases hv0.sl_inv with ⟨h0,a,ha⟩|⟨sb,so,cap,k,g,ha,hU2,hsb,h3,h4,_,hk0,hk,hcc,hone,hvv⟩
   ·have h0':ints xs=[]:=h0
    have:xs.length=0:=by rw[<-ints_length xs,h0'];rfl
    omega
   ·have ha':f 0= .slice (some ⟨sb,so,none⟩) (ints xs).length cap:=ha
    have hjl:j<(ints xs).length:=by rw[ints_length];exact hj
    have hcell:(ints xs)[j].cells=[I (xs.getD j 0)]:=by
     have:=ints_getD hj
     rw[List.getD_eq_getElem?_getD,List.getElem?_eq_getElem hjl] at this
     have e2:(ints xs)[j]=I (xs.getD j 0):=this
     rw[e2];rfl
    have hk1:k=1:=by have:=hk j hjl;rw[hcell] at this;simpa using this.symm
    subst hk1
    refine⟨.pointer (some ⟨sb,so+(j:Int).toNat*(tl tab 3).size,none⟩),?_,?_⟩
    ·rw[ha']
     exact run_indexAt_sl hu22 hf3 sb so _ cap .i64 (j:Nat) (by omega) (by omega) W
    ·have hl3:=run_loadAt hf3 W sb (so+(j:Int).toNat*(tl tab 3).size) (fun m=>g (j*1+m)) fun m hm=>by
      have hm0:m=0:=by have:m<1:=hm;omega
      subst hm0
      have:=hcc j (by omega)
      have e3:so+(j:Int).toNat*(tl tab 3).size+0=so+j:=by simp[show(tl tab 3).size=1 from rfl]
      rw[e3,this];simp
     rw[hl3]
     have hg:=hvv j hjl 0 (by rw[hcell];simp)
     have:(ints xs)[j].cells[0]'(by rw[hcell];simp)=I (xs.getD j 0):=by simp only[hcell,List.getElem_cons_zero]
     rw[this] at hg
     have hg':g (j*1+0)= .int .i64 (xs.getD j 0):=(VR.dat (e:=⟨fun _=>none,fun _=>False,fun _=>none⟩) (G:=fun _=>True) _ _ (hg.mono (U':=UE ⟨fun _=>none,fun _=>False,fun _=>none⟩) (Nat.le_refl _) (fun _ _ _=>⟨id,fun ho=>by
      rcases ho with ⟨_,_,_,h,_⟩|⟨_,_,h,_⟩<;>cases h⟩) fun _ _ _=>rfl)).lit_inv.1
     show Result.ok (g (j*1+0)) W=_
     rw[hg']
 refine callsIn_of_wp (F:=Fence.wide) Tryz.func144 (by rfl) trivial ?_
 obtain⟨Y,hY⟩:∃Y:Value,Y= .func (.yield l) #[] #[]:=⟨_,rfl⟩
 obtain⟨Pt,hPt⟩:∃Pt:Value,Pt= .pointer (some ⟨bx,off,none⟩):=⟨_,rfl⟩
 rw[<-hPt] at rd
 rw[<-hY,<-hPt]
 have T0:(#[Y,Pt]++Array.replicate (Tryz.f144.ntmps - #[Y,Pt].size) undef).size=19/\(#[Y,Pt]++Array.replicate (Tryz.f144.ntmps - #[Y,Pt].size) undef).getD 0 undef=Y/\(#[Y,Pt]++Array.replicate (Tryz.f144.ntmps - #[Y,Pt].size) undef).getD 1 undef=Pt:=by
  rw[Tryz.ntmps144]
  refine⟨by simp,?_,?_⟩<;>rw[Array.getD_eq_getD_getElem?,Array.getElem?_append_left (by simp)]<;>rfl
 generalize (#[Y,Pt]++Array.replicate (Tryz.f144.ntmps - #[Y,Pt].size) undef)=tm at T0
 obtain⟨t1,t2,t3⟩:=T0
 have nd:∀{op:Op} {c:Call},op≠ .defer c->op≠ .defer c:=fun h=>h
 refine wpIn_seq (wpIn_region_lit ?_)
 obtain⟨sv,q1,q2,q3⟩:=rd 0 W0 hJ0
 refine wl_val rfl (by intro c h;cases h) (x_load (v0:=Pt) t3 q1) ?_
 refine wl_val rfl (by intro c h;cases h) (x_len (v0:=sv) (by simp[Act.put,Act.eval,getD_setI,t1]) q2) ?_
 refine wl_val rfl (by intro c h;cases h) (x_sub (m:=xs.length) (n:=1) (by simp[Act.put,Act.eval,getD_setI,t1]) rfl (by omega)) ?_
 refine wl_val rfl (by intro c h;cases h) (x_assign (v:= .int .i64 ((xs.length:Int) - 1)) (by simp[Act.put,Act.eval,getD_setI,t1])) ?_
 show(Code.block _ _).wpIn Fence.wide 0 Tryz.prog _ _ _
 refine wpIn_block (wpIn_loop (fun a W=>∃i,i<=xs.length/\J i W/\a.defers=[]/\a.tmps.size=19/\a.tmps.getD 0 undef=Y/\a.tmps.getD 1 undef=Pt/\a.tmps.getD 3 undef= .int .i64 ((xs.length:Int) - 1 - i))
  (fun a _=>match a.tmps.getD 3 undef with| .int _ n=>(n+1).toNat|_=>0) ⟨0,Nat.zero_le _,hJ0,rfl,?_,?_,?_,?_⟩ ?_)
 ·simp[Act.put,t1]
 ·simp only[Act.put,getD_setI,t2];rfl
 ·simp only[Act.put,getD_setI,t3];rfl
 ·simp[Act.put,getD_setI,t1]
 ·rintro a W ⟨i,hi,hJi,hd,s1,s2,s3,s4⟩
  clear t1 t2 t3
  refine wpIn_seq (wpIn_seq (wpIn_region_lit ?_))
  refine wl_val rfl (by intro c h;cases h) (x_move s4) ?_
  refine wl_val rfl (by intro c h;cases h) (x_geq (m:=(xs.length:Int) - 1 - i) (n:=0) (by simp only[Act.put,Act.eval,getD_setI,Array.size_setIfInBounds,s1,s2,s3,s4,Nat.reduceEqDiff,Nat.reduceLT,false_and,true_and,and_self,if_false,if_true,reduceIte]) rfl) ?_
  by_cases hlt:i<xs.length
  ·refine wpIn_cond_true ?_ (wpIn_skip ?_)
   ·simp only[Act.put,Act.eval,getD_setI,Array.size_setIfInBounds,s1,s2,s3,s4,Nat.reduceEqDiff,Nat.reduceLT,false_and,true_and,and_self,if_false,if_true,reduceIte];exact congrArg Value.bool (by simp;omega)
   refine wpIn_seq (wpIn_block (wpIn_seq (wpIn_region_lit ?_)))
   obtain⟨sv,q1,q2,q3⟩:=rd i W hJi
   obtain⟨av,q4,q5⟩:=q3 (xs.length - 1 - i) (by omega)
   have ei:((xs.length - 1 - i:Nat):Int)=(xs.length:Int) - 1 - i:=by omega
   rw[ei] at q4
   refine wl_val rfl (by intro c h;cases h) (x_move (v:=Y) (by simp only[Act.put,Act.eval,getD_setI,Array.size_setIfInBounds,s1,s2,s3,s4,Nat.reduceEqDiff,Nat.reduceLT,false_and,true_and,and_self,if_false,if_true,reduceIte])) ?_
   refine wl_val rfl (by intro c h;cases h) (x_move (v:= .int .i64 ((xs.length:Int) - 1 - i)) (by simp only[Act.put,Act.eval,getD_setI,Array.size_setIfInBounds,s1,s2,s3,s4,Nat.reduceEqDiff,Nat.reduceLT,false_and,true_and,and_self,if_false,if_true,reduceIte])) ?_
   refine wl_val rfl (by intro c h;cases h) (x_load (v0:=Pt) (by simp only[Act.put,Act.eval,getD_setI,Array.size_setIfInBounds,s1,s2,s3,s4,Nat.reduceEqDiff,Nat.reduceLT,false_and,true_and,and_self,if_false,if_true,reduceIte]) q1) ?_
   refine wl_val rfl (by intro c h;cases h) (x_move (v:= .int .i64 ((xs.length:Int) - 1 - i)) (by simp only[Act.put,Act.eval,getD_setI,Array.size_setIfInBounds,s1,s2,s3,s4,Nat.reduceEqDiff,Nat.reduceLT,false_and,true_and,and_self,if_false,if_true,reduceIte])) ?_
   refine wl_val rfl (by intro c h;cases h) (x_idx (v0:=sv) (by simp only[Act.put,Act.eval,getD_setI,Array.size_setIfInBounds,s1,s2,s3,s4,Nat.reduceEqDiff,Nat.reduceLT,false_and,true_and,and_self,if_false,if_true,reduceIte]) (by simp only[Act.put,Act.eval,getD_setI,Array.size_setIfInBounds,s1,s2,s3,s4,Nat.reduceEqDiff,Nat.reduceLT,false_and,true_and,and_self,if_false,if_true,reduceIte]) q4) ?_
   refine wl_val rfl (by intro c h;cases h) (x_load (v0:=av) (by simp only[Act.put,Act.eval,getD_setI,Array.size_setIfInBounds,s1,s2,s3,s4,Nat.reduceEqDiff,Nat.reduceLT,false_and,true_and,and_self,if_false,if_true,reduceIte]) q5) ?_
   obtain⟨fn,tmps,asg,bd,hy,hr⟩:=hround i W hlt hJi
   unfold wpListIn
   rw[if_pos (wanted_none rfl _)]
   refine⟨fun _ _=>trivial,?_⟩
   rw[Oper.semAt_eq _ _ _ (by intro c h;cases h),x_round (l:=l) (v1:= .int .i64 ((xs.length:Int) - 1 - i)) (v2:= .int .i64 (xs.getD (xs.length - 1 - i) 0)) (by rw[<-hY];simp[Act.put,Act.eval,getD_setI,s1]) (by simp only[Act.put,Act.eval,getD_setI,Array.size_setIfInBounds,s1,s2,s3,s4,Nat.reduceEqDiff,Nat.reduceLT,false_and,true_and,and_self,if_false,if_true,reduceIte]) (by simp only[Act.put,Act.eval,getD_setI,Array.size_setIfInBounds,s1,s2,s3,s4,Nat.reduceEqDiff,Nat.reduceLT,false_and,true_and,and_self,if_false,if_true,reduceIte]) hy,Oper.uponIn_round]
   refine⟨fun h=>(by cases h),hr.mono ?_⟩
   rintro en W' ⟨rfl,hJ'⟩
   refine wl_val rfl (by intro c h;cases h) (x_not (b:=true) (by simp only[Act.put,Act.eval,getD_setI,Array.size_setIfInBounds,s1,s2,s3,s4,Nat.reduceEqDiff,Nat.reduceLT,false_and,true_and,and_self,if_false,if_true,reduceIte])) ?_
   refine wpIn_cond_false (by simp only[Act.put,Act.eval,getD_setI,Array.size_setIfInBounds,s1,s2,s3,s4,Nat.reduceEqDiff,Nat.reduceLT,false_and,true_and,and_self,if_false,if_true,reduceIte,Bool.not_true]) (wpIn_skip ?_)
   refine wpIn_region_lit ?_
   refine wl_val rfl (by intro c h;cases h) (x_move (v:= .int .i64 ((xs.length:Int) - 1 - i)) (by simp only[Act.put,Act.eval,getD_setI,Array.size_setIfInBounds,s1,s2,s3,s4,Nat.reduceEqDiff,Nat.reduceLT,false_and,true_and,and_self,if_false,if_true,reduceIte])) ?_
   refine wl_val rfl (by intro c h;cases h) (x_sub (m:=(xs.length:Int) - 1 - i) (n:=1) (by simp only[Act.put,Act.eval,getD_setI,Array.size_setIfInBounds,s1,s2,s3,s4,Nat.reduceEqDiff,Nat.reduceLT,false_and,true_and,and_self,if_false,if_true,reduceIte]) rfl (by omega)) ?_
   refine wl_val rfl (by intro c h;cases h) (x_assign (v:= .int .i64 ((xs.length:Int) - 1 - i - 1)) (by simp only[Act.put,Act.eval,getD_setI,Array.size_setIfInBounds,s1,s2,s3,s4,Nat.reduceEqDiff,Nat.reduceLT,false_and,true_and,and_self,if_false,if_true,reduceIte])) ?_
   simp only[Exit.then]
   refine And.intro (Exists.intro (i+1) ?_) ?_
   ·refine And.intro (by omega) (And.intro hJ' (And.intro ?_ (And.intro ?_ (And.intro ?_ (And.intro ?_ ?_)))))
    ·simp only[Act.put];exact hd
    ·simp only[Act.put,Act.eval,getD_setI,Array.size_setIfInBounds,s1,s2,s3,s4,Nat.reduceEqDiff,Nat.reduceLT,false_and,true_and,and_self,if_false,if_true,reduceIte]
    ·simp only[Act.put,Act.eval,getD_setI,Array.size_setIfInBounds,s1,s2,s3,s4,Nat.reduceEqDiff,Nat.reduceLT,false_and,true_and,and_self,if_false,if_true,reduceIte]
    ·simp only[Act.put,Act.eval,getD_setI,Array.size_setIfInBounds,s1,s2,s3,s4,Nat.reduceEqDiff,Nat.reduceLT,false_and,true_and,and_self,if_false,if_true,reduceIte]
    ·simp only[Act.put,Act.eval,getD_setI,Array.size_setIfInBounds,s1,s2,s3,s4,Nat.reduceEqDiff,Nat.reduceLT,false_and,true_and,and_self,if_false,if_true,reduceIte]
     exact congrArg (Value.int .i64) (by omega)
   ·simp only[Act.put,Act.eval,getD_setI,Array.size_setIfInBounds,s1,s2,s3,s4,Nat.reduceEqDiff,Nat.reduceLT,false_and,true_and,and_self,if_false,if_true,reduceIte]
    omega
  ·have hi':i=xs.length:=by omega
   subst hi'
   refine wpIn_cond_false ?_ (wpIn_exit ?_)
   ·simp only[Act.put,Act.eval,getD_setI,Array.size_setIfInBounds,s1,s2,s3,s4,Nat.reduceEqDiff,Nat.reduceLT,false_and,true_and,and_self,if_false,if_true,reduceIte];exact congrArg Value.bool (by simp;omega)
   simp only[Exit.then,Exit.inBlock,if_true]
   have hres:Tryz.f144.results=#[]:=rfl
   exact⟨hd, .tuple #[],by simp[results,hres],⟨_,rfl⟩,hJi⟩
end Go.Proofs.YtkhjenddapaejaaGreatDoor
namespace Go.Plant
def advL:List Int->List Int->Bool->List Int×Int
 |[],_,_=>([],0)
 |b::r,fs,op=>
  if b=0 then(0::(advL r (fs.drop 1) op).1,(advL r (fs.drop 1) op).2)
  else if r=[] then(if op=true/\fs.getD 0 0≠1 then([0],b) else([b],0))
  else if fs.getD 0 0=1\/r.getD 0 0≠0 then(b::(advL r (fs.drop 1) op).1,(advL r (fs.drop 1) op).2)
  else if fs.getD 0 0=2/\1<r.length/\r.getD 1 0=0 then(0::((advL r (fs.drop 1) op).1.set 1 b),(advL r (fs.drop 1) op).2)
  else(0::((advL r (fs.drop 1) op).1.set 0 b),(advL r (fs.drop 1) op).2)
theorem advL_len (s fs:List Int) (op:Bool):(advL s fs op).1.length=s.length:=by
 induction s generalizing fs with
 |nil=>rfl
 |cons b r ih=>
  rw[advL]
  split
  ·simp[ih]
  ·split
   ·next h=>subst h;split<;>rfl
   ·split
    ·simp[ih]
    ·split<;>simp[ih]
theorem advL_zero (r fs:List Int) (op:Bool):advL (0::r) fs op=(0::(advL r (fs.drop 1) op).1,(advL r (fs.drop 1) op).2):=by
 rw[advL,if_pos rfl]
theorem getD0 {r:List Int} (h:r≠[]) (h0:r.getD 0 0=0):∃t,r=0::t:=by
 cases r with
 |nil=>exact absurd rfl h
 |cons a t=>exact⟨t,by simp at h0;rw[h0]⟩
def nz (s:List Int):List Int:=s.filter fun x=>decide (x≠0)
@[simp] theorem nz_nil:nz []=[]:=rfl
@[simp] theorem nz_zero (s:List Int):nz (0::s)=nz s:=rfl
theorem nz_cons {b:Int} (h:b≠0) (s:List Int):nz (b::s)=b::nz s:=by simp[nz,h]
theorem nz_append (s t:List Int):nz (s++t)=nz s++nz t:=by simp[nz]
theorem advL_nz (s fs:List Int) (op:Bool):nz (advL s fs op).1++nz [(advL s fs op).2]=nz s:=by
 induction s generalizing fs with
 |nil=>rfl
 |cons b r ih=>
  by_cases hb:b=0
  ·subst hb
   rw[advL_zero]
   simp only[nz_zero]
   exact ih _
  ·rw[advL,if_neg hb]
   split
   ·next h=>
    subst h
    split
    ·rfl
    ·simp[nz,hb]
   ·next hr=>
    split
    ·rw[nz_cons hb,nz_cons hb,List.cons_append,ih]
    ·next h1=>
     have h0:r.getD 0 0=0:=Decidable.byContradiction fun h=>h1 (.inr h)
     obtain⟨t,rfl⟩:=getD0 hr h0
     split
     ·next h2=>
      have ht:t≠[]:=by
       intro h
       subst h
       simp at h2
      obtain⟨u,rfl⟩:=getD0 ht (by simpa using h2.2.2)
      have:=ih (fs.drop 1)
      rw[advL_zero,advL_zero] at this ⊢
      simp only[nz_zero] at this
      simp only[List.set_cons_succ,List.set_cons_zero,nz_zero,nz_cons hb,List.cons_append]
      rw[this]
     ·have:=ih (fs.drop 1)
      rw[advL_zero] at this ⊢
      simp only[nz_zero] at this
      simp only[List.set_cons_zero,nz_zero,nz_cons hb,List.cons_append]
      rw[this]
theorem advL_head (s fs:List Int) (op:Bool) (h:s.getD 0 0=0):(advL s fs op).1.getD 0 0=0:=by
 cases s with
 |nil=>rfl
 |cons b r=>
  simp at h
  subst h
  rw[advL_zero]
  rfl
theorem advL_out (s fs:List Int) (op:Bool):
  (advL s fs op).2=if op=true/\fs.getD (s.length - 1) 0≠1 then s.getD (s.length - 1) 0 else 0:=by
 induction s generalizing fs with
 |nil=>simp[advL]
 |cons b r ih=>
  have hd:r≠[]->(fs.drop 1).getD (r.length - 1) 0=fs.getD ((b::r).length - 1) 0/\r.getD (r.length - 1) 0=(b::r).getD ((b::r).length - 1) 0:=by
   intro hr
   have:0<r.length:=List.length_pos_iff.mpr hr
   have e:(b::r).length - 1=(r.length - 1)+1:=by simp;omega
   rw[e]
   exact⟨by simp[List.getD_eq_getElem?_getD,Nat.add_comm],by simp[List.getD_eq_getElem?_getD]⟩
  by_cases hr:r=[]
  ·subst hr
   by_cases hb:b=0
   ·subst hb
    simp[advL]
   ·rw[advL,if_neg hb,if_pos rfl]
    simp only[List.length_cons,List.length_nil,List.getD_cons_zero]
    by_cases hc:op=true/\fs.getD 0 0≠1
    ·rw[if_pos hc]
     simp only[Nat.zero_add,Nat.sub_self,List.getD_cons_zero]
     rw[if_pos hc]
    ·rw[if_neg hc]
     simp only[Nat.zero_add,Nat.sub_self]
     rw[if_neg hc]
  ·have:=ih (fs.drop 1)
   rw[(hd hr).1,(hd hr).2] at this
   rw[advL]
   simp only[if_neg hr]
   split
   ·exact this
   ·split
    ·exact this
    ·split<;>exact this
def swp (l:List Int) (i j:Nat):List Int:=(l.set i (l.getD j 0)).set j (l.getD i 0)
def tgtW (s:List Int) (k:Nat) (f:Int):Nat:=
 if f=1\/s.getD (k+1) 0≠0 then k
 else if f=2/\k+2<s.length/\s.getD (k+2) 0=0 then k+2 else k+1
def sadS (s fs:List Int) (op:Bool) (k:Nat) (o:List Int×Int):List Int×Int:=
 if s.getD k 0=0 then o
 else if k+1<s.length then(swp o.1 k (tgtW s k (fs.getD k 0)),o.2)
 else if op=true/\fs.getD k 0≠1 then(o.1.set k 0,s.getD k 0)
 else o
def sadR (s fs:List Int) (op:Bool):Nat->List Int×Int
 |0=>(s,0)
 |c+1=>sadS s fs op (s.length - 1 - c) (sadR s fs op c)
theorem swp_self (l:List Int) (i:Nat):swp l i i=l:=by
 unfold swp
 by_cases h:i<l.length
 ·simp[List.getD_eq_getElem?_getD,List.getElem?_eq_getElem h]
 ·rw[List.set_eq_of_length_le (by simpa using h),List.set_eq_of_length_le (by omega)]
theorem set_app (a b:List Int) (i:Nat) (x:Int):(a++b).set (a.length+i) x=a++b.set i x:=by
 rw[List.set_append_right _ _ (by omega)]
 congr 2
 omega
theorem getD_app (a b:List Int) (i:Nat):(a++b).getD (a.length+i) 0=b.getD i 0:=by
 simp[List.getD_eq_getElem?_getD,List.getElem?_append_right]
theorem swp_app (a b:List Int) (i j:Nat):swp (a++b) (a.length+i) (a.length+j)=a++swp b i j:=by
 simp only[swp,getD_app,set_app]
theorem sadS_app (a s fs:List Int) (op:Bool) (b:Int) (r:List Int) (hs:s=a++b::r) (o:Int)
  (A:List Int) (hA:A=(advL r (fs.drop (a.length+1)) op).1) (ho:o=(advL r (fs.drop (a.length+1)) op).2):
  sadS s fs op a.length (a++b::A,o)=(a++(advL (b::r) (fs.drop a.length) op).1,(advL (b::r) (fs.drop a.length) op).2):=by
 have e0:s.getD a.length 0=b:=by rw[hs];simpa using getD_app a (b::r) 0
 have e1:s.getD (a.length+1) 0=r.getD 0 0:=by rw[hs];simpa using getD_app a (b::r) 1
 have e2:s.getD (a.length+2) 0=r.getD 1 0:=by rw[hs];simpa using getD_app a (b::r) 2
 have el:s.length=a.length+1+r.length:=by rw[hs];simp;omega
 have ef:(fs.drop a.length).getD 0 0=fs.getD a.length 0:=by simp[List.getD_eq_getElem?_getD]
 have ed:(fs.drop a.length).drop 1=fs.drop (a.length+1):=by simp
 rw[advL,ed,<-hA,<-ho,ef]
 unfold sadS
 rw[e0]
 by_cases hb:b=0
 ·subst hb
  rw[if_pos rfl,if_pos rfl]
 rw[if_neg hb,if_neg hb]
 by_cases hr:r=[]
 ·subst hr
  have:A=[]:=by rw[hA];rfl
  subst this
  have:o=0:=by rw[ho];rfl
  subst this
  rw[if_neg (by simp at el;omega),if_pos rfl]
  split
  ·have:=set_app a [b] 0 0
   simp only[Nat.add_zero,List.set_cons_zero] at this
   simp only[this]
  ·rfl
 ·have hl:0<r.length:=List.length_pos_iff.mpr hr
  rw[if_pos (by omega),if_neg hr]
  unfold tgtW
  rw[e1,e2,el]
  by_cases h1:fs.getD a.length 0=1\/r.getD 0 0≠0
  ·rw[if_pos h1,if_pos h1,swp_self]
  rw[if_neg h1,if_neg h1]
  have h0:r.getD 0 0=0:=Decidable.byContradiction fun h=>h1 (.inr h)
  obtain⟨t,rfl⟩:=getD0 hr h0
  rw[advL_zero] at hA
  by_cases h2:fs.getD a.length 0=2/\1<(0::t).length/\(0::t).getD 1 0=0
  ·have ht:t≠[]:=by
    intro h
    subst h
    simp at h2
   obtain⟨u,rfl⟩:=getD0 ht (by simpa using h2.2.2)
   rw[advL_zero] at hA
   rw[if_pos (by refine⟨h2.1,?_,h2.2.2⟩;have:=h2.2.1;omega),if_pos h2]
   have:=swp_app a (b::A) 0 2
   simp only[Nat.add_zero] at this
   rw[this,hA]
   simp[swp]
  ·rw[if_neg (by intro h;exact h2 ⟨h.1,by have:=h.2.1;omega,h.2.2⟩),if_neg h2]
   have:=swp_app a (b::A) 0 1
   simp only[Nat.add_zero] at this
   rw[this,hA]
   simp[swp]
theorem sadR_eq (s fs:List Int) (op:Bool) (c:Nat) (hc:c<=s.length):
  sadR s fs op c=(s.take (s.length - c)++(advL (s.drop (s.length - c)) (fs.drop (s.length - c)) op).1,(advL (s.drop (s.length - c)) (fs.drop (s.length - c)) op).2):=by
 induction c with
 |zero=>simp[sadR,advL]
 |succ c ih=>
  have hk:s.length - 1 - c<s.length:=by omega
  have e1:s.length - c=(s.length - 1 - c)+1:=by omega
  have e2:s.length - (c+1)=s.length - 1 - c:=by omega
  rw[sadR,ih (by omega),e1,e2]
  generalize hkk:s.length - 1 - c=k at*
  have hs:s=s.take k++s[k]::s.drop (k+1):=by
   rw[<-List.drop_eq_getElem_cons hk,List.take_append_drop]
  have hlt:(s.take k).length=k:=by simp;omega
  have ht:s.take (k+1)=s.take k++[s[k]]:=by rw[List.take_add_one];simp[hk]
  have:=sadS_app (s.take k) s fs op s[k] (s.drop (k+1)) hs (advL (s.drop (k+1)) (fs.drop ((s.take k).length+1)) op).2 _ rfl rfl
  rw[hlt,<-List.drop_eq_getElem_cons hk] at this
  rw[ht,List.append_assoc]
  exact this
theorem sadR_adv (s fs:List Int) (op:Bool):sadR s fs op s.length=advL s fs op:=by
 rw[sadR_eq _ _ _ _ (Nat.le_refl _)]
 simp
end Go.Plant
namespace Go.Proofs.YtkhjenddapaejaaGreatDoor
open Go Go.Sym
open Go.Plant
theorem clone_sat (s:List Int) (h0:0<s.length) (hs:s.length<=1000):SatG Tryz.prog tab 111 [] [IS s] [(100,some (1, .own 3 1 (ints s)))] (.slO 100 1 0 s.length):=by
 refine uFN Tryz.func111 Tryz.ntmps111 ?_;intro w e X hC
 repeat refine uA ?_
 refine uF ?_
 repeat refine uA ?_
 refine awp_ret ?_;rw[show Tryz.f111.results.toList=[.tmp 2] from rfl];(refine retG [(100,1,105,4)] uRG (by simp) (by simp) (by simp) uTG uTG uTG ?_ ?_;all_goals (first|refine uSG ?_|exact uXG|skip))
theorem sadS_len {s fs:List Int} {op:Bool} {k:Nat} {o:List Int×Int}:(sadS s fs op k o).1.length=o.1.length:=by
 unfold sadS
 split
 ·rfl
 ·split
  ·simp[swp]
  ·split<;>simp
theorem sadR_len {s fs:List Int} {op:Bool}:∀c,(sadR s fs op c).1.length=s.length
 |0=>rfl
 |c+1=>by rw[sadR,sadS_len,sadR_len c]
theorem tgt1_eq (s:List Int) (k:Nat) (f:Int):tgt1 s k f=tgtW s k f:=rfl
theorem tgtW_lt {s:List Int} {k:Nat} {f:Int} (h:k+1<s.length):tgtW s k f<s.length:=by
 unfold tgtW;split
 ·omega
 ·split<;>omega
theorem sadvance_sat (s fs:List Int) (op:Bool) (h0:0<s.length) (hn:fs.length<=1000) (hs:s.length<=1000):
  SatG Tryz.prog tab 121 [] [IS s,IS fs,B op] [(100,some (1, .own 3 1 (ints (advL s fs op).1)))] (.tup [.slO 100 1 0 s.length,I (advL s fs op).2]):=by
 refine uFN Tryz.func121 Tryz.ntmps121 ?_;intro w e X hC
 repeat refine uA ?_
 refine uR ?_;intro K hK
 refine callE [] [(113,4,100,1)] false ((clone_sat s h0 hs)) uTR uTR uTE uTE uTE uTE uTE uTE uTE uTE uTE uTE uTE uTE uTE uTE uTE ?_;refine uQS ?_
 refine hK _ ?_;clear hK K
 repeat refine uA ?_
 have ei:(s.length:Int) - 1=((s.length:Int) - 1 - ((0:Nat):Int)):=by omega
 refine uW ?_
 refine awp_loopW (fun i:Nat×Nat×Nat=>⟨[(0,IS s),(1,IS fs),(2,B op),(8, .slO 113 i.2.2 0 s.length),(9,I (sadR s fs op i.2.1).2),(10,I ((s.length:Int) - 1 - i.2.1))],(113,some (i.2.2, .own 3 1 (ints (sadR s fs op i.2.1).1)))::[],i.1⟩) (fun i=>i.2.1<=s.length) (fun i=>s.length - i.2.1) (_,0,_) (Nat.zero_le _) (.of (Nat.le_refl _) (by repeat first|exact HOk.nil|refine uHN ?_|(refine HOk.cons ?_ ?_;(focus (simp only[go_sem,Nat.reduceAdd,Nat.reduceSub,Nat.reduceMul,Nat.reduceLT,Nat.reduceEqDiff,Nat.reduceBEq,Nat.reduceLeDiff,Int.reduceToNat,↓reduceIte,Int.reduceEq,Int.reduceLT,Int.reduceLE,Int.reduceAdd,Int.reduceSub,Int.reduceNeg,reduceCtorEq,sadR];done)))) (by repeat first|exact WOk.nil|refine uWN ?_|(refine WOk.cons ?_ ?_;(focus (simp only[go_sem,Nat.reduceAdd,Nat.reduceSub,Nat.reduceMul,Nat.reduceLT,Nat.reduceEqDiff,Nat.reduceBEq,Nat.reduceLeDiff,Int.reduceToNat,↓reduceIte,Int.reduceEq,Int.reduceLT,Int.reduceLE,Int.reduceAdd,Int.reduceSub,Int.reduceNeg,reduceCtorEq,<-ei,sadR];done))))) ?_
 rintro⟨ck,c,g⟩ hc
 simp only at hc
 have hal:=sadR_len (s:=s) (fs:=fs) (op:=op) c
 have e1:sadR s fs op (c+1)=sadS s fs op (s.length - 1 - c) (sadR s fs op c):=rfl
 have efin:c=s.length->sadR s fs op c=advL s fs op:=fun h=>by subst h;exact sadR_adv s fs op
 generalize e9:sadR s fs op c=o at*
 repeat refine uA ?_
 refine uW ?_;refine condP _ rfl (fun h=>?_) (fun h=>?_)
 ·have hlt:c<s.length:=by omega
  obtain⟨k,hk⟩:∃k,k=s.length - 1 - c:=⟨_,rfl⟩
  have hkk:(s.length:Int) - 1 - c=k:=by omega
  have hkl:k<s.length:=by omega
  have e3:(k:Int) - 1=(s.length:Int) - 1 - ((c+1:Nat):Int):=by omega
  rw[<-hk] at e1
  simp only[hkk]
  by_cases c1:s.getD k 0=0
  ·have e2:sadS s fs op k o=o:=if_pos c1
   have d1:decide (s.getD k 0=0)=true:=decide_eq_true c1
   repeat first|refine uC ?_|refine uA1 (uI (ints_getD hkl) @d1) ?_
   refine uW ?_
   refine⟨(_,c+1,g),by simp only;omega,by simp only;omega, .of (Nat.le_refl _) (uHF1 (uI @e1 @e2)) (uWF1 (uI @e1 (uI @e2 @e3)))⟩
  ·have d1:decide (s.getD k 0=0)=false:=decide_eq_false c1
   by_cases c2:k+1<s.length
   ·have e2:sadS s fs op k o=(swp o.1 k (tgtW s k (fs.getD k 0)),o.2):=by rw[sadS,if_neg c1,if_pos c2]
    have d2:decide ((k:Int)<(s.length:Int) - 1)=true:=decide_eq_true (by omega)
    have ht:=tgtW_lt (f:=fs.getD k 0) c2
    have ht2:=starget_sat s k (fs.getD k 0) hs c2
    rw[tgt1_eq] at ht2
    generalize e7:tgtW s k (fs.getD k 0)=to at*
    have hto:to<o.1.length:=by omega
    have hko:k<o.1.length:=by omega
    repeat first|refine uC ?_|refine uA1 (uI (ints_getD hkl) (uI @d1 @d2)) ?_
    refine uR ?_;intro K hK
    refine callF uTS ((sat_sat fs k hn)) uTS uTS uTS ?_;refine uS ?_
    refine callF uTS (ht2) uTS uTS uTS ?_;refine uS ?_
    refine hK _ ?_;clear hK K
    refine uD1 (uI (ints_getD hto) (uI (ints_getD hko) @hal)) ?_;intro K hK
    refine uH ?_
    refine hK _ ?_;clear hK K
    repeat first|refine uC ?_|refine uA ?_
    refine uW ?_
    have e2':sadS s fs op k o=((o.1.set k (o.1.getD to 0)).set to (o.1.getD k 0),o.2):=e2
    refine⟨(_,c+1,g),by simp only;omega,by simp only;omega, .of (Nat.le_refl _) (uHF1 (uI @e1 @e2')) (uWF1 (uI @e1 (uI @e2' @e3)))⟩
   ·have d2:decide ((k:Int)<(s.length:Int) - 1)=false:=decide_eq_false (by omega)
    cases op with
    |false=>
     have e2:sadS s fs false k o=o:=by rw[sadS,if_neg c1,if_neg c2,if_neg (by simp)]
     repeat first|refine uC ?_|refine uA1 (uI (ints_getD hkl) (uI @d1 @d2)) ?_
     refine uW ?_
     refine⟨(_,c+1,g),by simp only;omega,by simp only;omega, .of (Nat.le_refl _) (uHF1 (uI @e1 @e2)) (uWF1 (uI @e1 (uI @e2 @e3)))⟩
    |true=>
     by_cases c3:fs.getD k 0=1
     ·have e2:sadS s fs true k o=o:=by rw[sadS,if_neg c1,if_neg c2,if_neg (fun h=>h.2 c3)]
      have d3:decide (¬fs.getD k 0=1)=false:=decide_eq_false (fun h=>h c3)
      repeat first|refine uC ?_|refine uA1 (uI (ints_getD hkl) (uI @d1 @d2)) ?_
      refine uR ?_;intro K hK
      refine callF uTS ((sat_sat fs k hn)) uTS uTS uTS ?_;refine uS ?_
      first|refine uS1 @d3 ?_|exact uX1 @d3
      refine hK _ ?_;clear hK K
      repeat first|refine uC ?_|refine uA ?_
      refine uW ?_
      refine⟨(_,c+1,g),by simp only;omega,by simp only;omega, .of (Nat.le_refl _) (uHF1 (uI @e1 @e2)) (uWF1 (uI @e1 (uI @e2 @e3)))⟩
     ·have e2:sadS s fs true k o=(o.1.set k 0,s.getD k 0):=by rw[sadS,if_neg c1,if_neg c2,if_pos ⟨rfl,c3⟩]
      have d3:decide (¬fs.getD k 0=1)=true:=decide_eq_true c3
      have hko:k<o.1.length:=by omega
      repeat first|refine uC ?_|refine uA1 (uI (ints_getD hkl) (uI @d1 @d2)) ?_
      refine uR ?_;intro K hK
      refine callF uTS ((sat_sat fs k hn)) uTS uTS uTS ?_;refine uS ?_
      first|refine uS1 @d3 ?_|exact uX1 @d3
      refine hK _ ?_;clear hK K
      repeat first|refine uC ?_|refine uA1 (uI (ints_getD hkl) @hal) ?_
      refine uW ?_
      refine⟨(_,c+1,g),by simp only;omega,by simp only;omega, .of (Nat.le_refl _) (uHF1 (uI @e1 @e2)) (uWF1 (uI @e1 (uI @e2 @e3)))⟩
 ·refine awp_exit ?_
  have hc':c=s.length:=by omega
  have e2:=efin hc'
  subst e2
  repeat refine uA ?_
  refine awp_ret ?_;rw[show Tryz.f121.results.toList=[.tmp 6, .tmp 7] from rfl];(refine retG [(100,1,113,g)] uRG (by simp) (by simp) (by simp) uTG uTG uTG ?_ ?_;all_goals (first|refine uSG ?_|exact uXG|skip))
theorem backward_sat (xs:List Int):SatG Tryz.prog tab 109 [] [IS xs] [] (.fn 144 [.ptI [IS xs]]):=by
 refine uFN Tryz.func109 Tryz.ntmps109 ?_;intro w e X hC
 repeat refine uA ?_
 (refine awp_ret (ret1 uRT ?_);try rfl)
theorem known_sat (x:Nd) (c:Int) (hx:x.ex.length<=1000):SatG Tryz.prog tab 77 [] [x.av,I c] [] (B (cmdOk x c)):=by
 refine uFN Tryz.func77 Tryz.ntmps77 ?_;intro w e X hC
 refine uA ?_
 have hst7 (h:x.kd=7):isStrip x.kd=false:=by rw[isStrip,h];rfl
 cases c1:isStrip x.kd with
 |true=>
  have n7:¬x.kd=7:=fun h=>by have:=hst7 h;rw[c1] at this;cases this
  have e1:cmdOk x c=if c=-1 then decide (¬x.kd=5) else decide (0<=c)&&decide (c<x.ex.length):=by rw[cmdOk,if_neg n7,c1,if_neg (by simp)]
  refine uR ?_;intro K hK
  refine callF uTS ((fstrip_sat x.kd)) uTS uTS uTS ?_;refine uS ?_
  first|refine uS1 @c1 ?_|exact uX1 @c1
  refine hK _ ?_;clear hK K
  refine uT ?_
  by_cases c2:c=-1
  ·have d2:decide (c=-1)=true:=decide_eq_true c2
   have d3:decide (0<=c)=false:=decide_eq_false (by omega)
   repeat refine uA1 (uI @d2 @d3) ?_
   (refine awp_ret (ret1 uRT ?_);try rfl)
   simp only[go_sem,Nat.reduceAdd,Nat.reduceSub,Nat.reduceMul,Nat.reduceLT,Nat.reduceEqDiff,Nat.reduceBEq,Nat.reduceLeDiff,Int.reduceToNat,↓reduceIte,Int.reduceEq,Int.reduceLT,Int.reduceLE,Int.reduceAdd,Int.reduceSub,Int.reduceNeg,reduceCtorEq,e1,if_pos c2,decide_not]
  ·have d2:decide (c=-1)=false:=decide_eq_false c2
   rw[if_neg c2] at e1
   by_cases c3:0<=c
   ·have d3:decide (0<=c)=true:=decide_eq_true c3
    by_cases c4:c<x.ex.length
    ·have d4:decide (c<(x.ex.length:Int))=true:=decide_eq_true c4
     repeat refine uA1 (uI @d2 (uI @d3 @d4)) ?_
     (refine awp_ret (ret1 uRT ?_);try rfl)
     rw[e1,d3,d4];rfl
    ·have d4:decide (c<(x.ex.length:Int))=false:=decide_eq_false c4
     repeat refine uA1 (uI @d2 (uI @d3 @d4)) ?_
     (refine awp_ret (ret1 uRT ?_);try rfl)
     rw[e1,d3,d4];rfl
   ·have d3:decide (0<=c)=false:=decide_eq_false c3
    repeat refine uA1 (uI @d2 @d3) ?_
    (refine awp_ret (ret1 uRT ?_);try rfl)
    rw[e1,d3];rfl
 |false=>
  refine uR ?_;intro K hK
  refine callF uTS ((fstrip_sat x.kd)) uTS uTS uTS ?_;refine uS ?_
  first|refine uS1 @c1 ?_|exact uX1 @c1
  refine hK _ ?_;clear hK K
  refine uF ?_
  by_cases c2:x.kd=7
  ·have d2:decide (x.kd=7)=true:=decide_eq_true c2
   have e1:cmdOk x c=(decide (0<=c)&&decide (c<=40)):=by rw[cmdOk,if_pos c2]
   by_cases c3:0<=c
   ·have d3:decide (0<=c)=true:=decide_eq_true c3
    repeat first|refine uC ?_|refine uA1 (uI @d2 @d3) ?_
    (refine awp_ret (ret1 uRT ?_);try rfl)
    rw[e1,d3];rfl
   ·have d3:decide (0<=c)=false:=decide_eq_false c3
    repeat first|refine uC ?_|refine uA1 (uI @d2 @d3) ?_
    (refine awp_ret (ret1 uRT ?_);try rfl)
    rw[e1,d3];rfl
  ·have d2:decide (x.kd=7)=false:=decide_eq_false c2
   have e1:cmdOk x c=decide (c=0):=by rw[cmdOk,if_neg c2,c1,if_pos rfl]
   repeat first|refine uC ?_|refine uA1 @d2 ?_
   (refine awp_ret (ret1 uRT ?_);try rfl)
   first|refine uS1 @e1 ?_|exact uX1 @e1
def idxR {α:Type} (p:α->Bool) (l:List α):Int:=match l.findIdx? p with|some i=>i|none=>-1
theorem fi_some {α:Type} {p:α->Bool} {l:List α} {d:α} {i:Nat} (hi:i<l.length) (h:∀j,j<i->p (l.getD j d)=false) (h2:p (l.getD i d)=true):idxR p l=i:=by
 have e1:l.findIdx? p=some i:=by
  rw[List.findIdx?_eq_some_iff_getElem]
  refine⟨hi,by simpa[hi] using h2,fun j hj'=>?_⟩
  have hj2:j<l.length:=by omega
  simpa[hj2] using h j hj'
 rw[idxR,e1]
theorem fi_none {α:Type} {p:α->Bool} {l:List α} {d:α} (h:∀j,j<l.length->p (l.getD j d)=false):idxR p l=-1:=by
 have e1:l.findIdx? p=none:=by
  rw[List.findIdx?_eq_none_iff]
  intro x hx
  obtain⟨j,hj',rfl⟩:=List.getElem_of_mem hx
  simpa[hj'] using h j (by omega)
 rw[idxR,e1]
theorem idx_any {α:Type} {p:α->Bool} {l:List α}:decide (0<=idxR p l)=l.any p:=by
 unfold idxR
 cases h:l.findIdx? p with
 |none=>
  have:l.any p=false:=by
   rw[List.findIdx?_eq_none_iff] at h
   rw[List.any_eq_false]
   exact fun x hx=>by simpa using h x hx
  rw[this];rfl
 |some i=>
  have:l.any p=true:=by
   rw[List.findIdx?_eq_some_iff_getElem] at h
   obtain⟨hi,h1,_⟩:=h
   exact List.any_eq_true.2 ⟨_,List.getElem_mem hi,h1⟩
  rw[this]
  simp
theorem indexI_sat (l:List Int) (x:Int) (hl:l.length<=1000):SatG Tryz.prog tab 70 [] [IS l,I x] [] (I (idxR (fun y=>decide (x=y)) l)):=by
 refine uFN Tryz.func70 Tryz.ntmps70 ?_;intro w e X hC
 repeat refine uA ?_
 refine uW ?_
 refine awp_loopW (fun i:Nat×Nat=>⟨[(1,I x),(0,IS l),(6,IS l),(7,I l.length),(8,I i.2)],[],i.1⟩) (fun i=>i.2<=l.length/\∀j,j<i.2->(fun y=>decide (x=y)) (l.getD j 0)=false) (fun i=>l.length - i.2) (_,0) ⟨Nat.zero_le _,fun j hj=>absurd hj (Nat.not_lt_zero _)⟩ (uKF) ?_
 rintro⟨ck,i⟩ ⟨hi,hj⟩
 simp only at hi hj
 repeat refine uA ?_
 refine uW ?_;refine condP _ rfl (fun h=>?_) (fun h=>?_)
 ·have hlt:i<l.length:=by omega
  skip
  cases c1:(fun y=>decide (x=y)) (l.getD i 0) with
  |true=>
   have e1:=fi_some (p:=(fun y=>decide (x=y))) (d:=0) hlt hj c1
   have d1:=c1
   simp only at d1
   repeat refine uA1 (uI (ints_getD hlt) @d1) ?_
   refine uT ?_
   repeat refine uA ?_
   (refine awp_ret (ret1 uRT ?_);try rfl)
   first|refine uS1 @e1 ?_|exact uX1 @e1
  |false=>
   have d1:=c1
   simp only at d1
   repeat refine uA1 (uI (ints_getD hlt) @d1) ?_
   refine uF ?_
   repeat refine uA ?_
   refine⟨(_,i+1),⟨by simp only;omega,fun j hj'=>?_⟩,by simp only;omega,uKF⟩
   by_cases hji:j=i
   ·subst hji;exact c1
   ·exact hj j (by simp only at hj';omega)
 ·refine awp_exit ?_
  have e1:=fi_none (l:=l) (p:=(fun y=>decide (x=y))) fun j h=>hj j (by omega)
  repeat refine uA ?_
  (refine awp_ret (ret1 uRT ?_);try rfl)
  first|refine uS1 @e1 ?_|exact uX1 @e1
theorem containsI_sat (l:List Int) (x:Int) (hl:l.length<=1000):SatG Tryz.prog tab 71 [] [IS l,I x] [] (B (l.any (fun y=>decide (x=y)))):=by
 refine uFN Tryz.func71 Tryz.ntmps71 ?_;intro w e X hC
 refine uA ?_
 refine uR ?_;intro K hK
 refine callF uTS ((indexI_sat l x hl)) uTS uTS uTS ?_;refine uS ?_
 refine hK _ ?_;clear hK K
 refine uW ?_
 (refine awp_ret (ret1 uRT ?_);try rfl)
 first|refine uS1 @idx_any ?_|exact uX1 @idx_any
def eqT (x y:T3):Bool:=decide (x.a=y.a)&&(decide (x.b=y.b)&&(decide (x.c=y.c)&&true))
theorem eqT_iff {x y:T3}:eqT x y=true↔x=y:=by
 cases x;cases y
 simp[eqT]
theorem indexF_sat (l:List T3) (x:T3) (hl:l.length<=1000):SatG Tryz.prog tab 183 [] [.sl (t3s l) false,x.av] [] (I (idxR (fun y:T3=>eqT x y) l)):=by
 refine uFN Tryz.func183 Tryz.ntmps183 ?_;intro w e X hC
 repeat refine uA ?_
 refine uW ?_
 refine awp_loopW (fun i:Nat×Nat=>⟨[(3, .ptO 103 1 0 0 0),(0, .sl (t3s l) false),(6, .sl (t3s l) false),(7,I l.length),(8,I i.2)],(103,some (1, .box [I x.a,I x.b,I x.c]))::[],i.1⟩) (fun i=>i.2<=l.length/\∀j,j<i.2->(fun y:T3=>eqT x y) (l.getD j default)=false) (fun i=>l.length - i.2) (_,0) ⟨Nat.zero_le _,fun j hj=>absurd hj (Nat.not_lt_zero _)⟩ (uKF) ?_
 rintro⟨ck,i⟩ ⟨hi,hj⟩
 simp only at hi hj
 repeat refine uA ?_
 refine uW ?_;refine condP _ rfl (fun h=>?_) (fun h=>?_)
 ·have hlt:i<l.length:=by omega
  skip
  cases c1:(fun y:T3=>eqT x y) (l.getD i default) with
  |true=>
   have e1:=fi_some (p:=(fun y:T3=>eqT x y)) (d:=default) hlt hj c1
   have d1:=c1
   simp only[eqT] at d1
   refine uA ?_
   refine uE1 (uI (t3s_getD hlt) @d1) ?_;intro K hK
   refine uH ?_
   refine hK _ ?_;clear hK K
   refine uT ?_
   repeat refine uA ?_
   (refine awp_ret (ret1 uRT ?_);try rfl)
   first|refine uS1 @e1 ?_|exact uX1 @e1
  |false=>
   have d1:=c1
   simp only[eqT] at d1
   refine uA ?_
   refine uE1 (uI (t3s_getD hlt) @d1) ?_;intro K hK
   refine uH ?_
   refine hK _ ?_;clear hK K
   refine uF ?_
   repeat refine uA ?_
   refine⟨(_,i+1),⟨by simp only;omega,fun j hj'=>?_⟩,by simp only;omega,uKF⟩
   by_cases hji:j=i
   ·subst hji;exact c1
   ·exact hj j (by simp only at hj';omega)
 ·refine awp_exit ?_
  have e1:=fi_none (l:=l) (p:=(fun y:T3=>eqT x y)) fun j h=>hj j (by omega)
  repeat refine uA ?_
  (refine awp_ret (ret1 uRT ?_);try rfl)
  first|refine uS1 @e1 ?_|exact uX1 @e1
theorem containsF_sat (l:List T3) (x:T3) (hl:l.length<=1000):SatG Tryz.prog tab 158 [] [.sl (t3s l) false,x.av] [] (B (l.any (fun y:T3=>eqT x y))):=by
 refine uFN Tryz.func158 Tryz.ntmps158 ?_;intro w e X hC
 refine uA ?_
 refine uR ?_;intro K hK
 refine callF uTS ((indexF_sat l x hl)) uTS uTS uTS ?_;refine uS ?_
 refine hK _ ?_;clear hK K
 refine uW ?_
 (refine awp_ret (ret1 uRT ?_);try rfl)
 first|refine uS1 @idx_any ?_|exact uX1 @idx_any
theorem indexD_sat (l:List T3) (x:T3) (hl:l.length<=1000):SatG Tryz.prog tab 178 [] [.sl (t3s l) false,x.av] [] (I (idxR (fun y:T3=>eqT x y) l)):=by
 refine uFN Tryz.func178 Tryz.ntmps178 ?_;intro w e X hC
 repeat refine uA ?_
 refine uW ?_
 refine awp_loopW (fun i:Nat×Nat=>⟨[(3, .ptO 103 1 0 0 0),(0, .sl (t3s l) false),(6, .sl (t3s l) false),(7,I l.length),(8,I i.2)],(103,some (1, .box [I x.a,I x.b,I x.c]))::[],i.1⟩) (fun i=>i.2<=l.length/\∀j,j<i.2->(fun y:T3=>eqT x y) (l.getD j default)=false) (fun i=>l.length - i.2) (_,0) ⟨Nat.zero_le _,fun j hj=>absurd hj (Nat.not_lt_zero _)⟩ (uKF) ?_
 rintro⟨ck,i⟩ ⟨hi,hj⟩
 simp only at hi hj
 repeat refine uA ?_
 refine uW ?_;refine condP _ rfl (fun h=>?_) (fun h=>?_)
 ·have hlt:i<l.length:=by omega
  skip
  cases c1:(fun y:T3=>eqT x y) (l.getD i default) with
  |true=>
   have e1:=fi_some (p:=(fun y:T3=>eqT x y)) (d:=default) hlt hj c1
   have d1:=c1
   simp only[eqT] at d1
   refine uA ?_
   refine uE1 (uI (t3s_getD hlt) @d1) ?_;intro K hK
   refine uH ?_
   refine hK _ ?_;clear hK K
   refine uT ?_
   repeat refine uA ?_
   (refine awp_ret (ret1 uRT ?_);try rfl)
   first|refine uS1 @e1 ?_|exact uX1 @e1
  |false=>
   have d1:=c1
   simp only[eqT] at d1
   refine uA ?_
   refine uE1 (uI (t3s_getD hlt) @d1) ?_;intro K hK
   refine uH ?_
   refine hK _ ?_;clear hK K
   refine uF ?_
   repeat refine uA ?_
   refine⟨(_,i+1),⟨by simp only;omega,fun j hj'=>?_⟩,by simp only;omega,uKF⟩
   by_cases hji:j=i
   ·subst hji;exact c1
   ·exact hj j (by simp only at hj';omega)
 ·refine awp_exit ?_
  have e1:=fi_none (l:=l) (p:=(fun y:T3=>eqT x y)) fun j h=>hj j (by omega)
  repeat refine uA ?_
  (refine awp_ret (ret1 uRT ?_);try rfl)
  first|refine uS1 @e1 ?_|exact uX1 @e1
theorem containsD_sat (l:List T3) (x:T3) (hl:l.length<=1000):SatG Tryz.prog tab 142 [] [.sl (t3s l) false,x.av] [] (B (l.any (fun y:T3=>eqT x y))):=by
 refine uFN Tryz.func142 Tryz.ntmps142 ?_;intro w e X hC
 refine uA ?_
 refine uR ?_;intro K hK
 refine callF uTS ((indexD_sat l x hl)) uTS uTS uTS ?_;refine uS ?_
 refine hK _ ?_;clear hK K
 refine uW ?_
 (refine awp_ret (ret1 uRT ?_);try rfl)
 first|refine uS1 @idx_any ?_|exact uX1 @idx_any
theorem mem_getD {α:Type} {l:List α} {i:Nat} {d:α} (h:i<l.length):l.getD i d∈l:=by
 rw[List.getD_eq_getElem?_getD,List.getElem?_eq_getElem h];exact List.getElem_mem h
theorem ixfI_sat (l:List Int) (k:Nat) (cs:List AV) (p:Int->Bool) (hl:l.length<=1000) (hk:∀y∈l,SatG Tryz.prog tab k [] [I y, .ptI cs] [] (B (p y))):SatG Tryz.prog tab 122 [] [IS l, .fn k [.ptI cs]] [] (I (idxR p l)):=by
 refine uFN Tryz.func122 Tryz.ntmps122 ?_;intro w e X hC
 repeat refine uA ?_
 refine uW ?_
 refine awp_loopW (fun i:Nat×Nat=>⟨[(1, .fn k [.ptI cs]),(0,IS l),(6,IS l),(7,I l.length),(8,I i.2)],[],i.1⟩) (fun i=>i.2<=l.length/\∀j,j<i.2->p (l.getD j 0)=false) (fun i=>l.length - i.2) (_,0) ⟨Nat.zero_le _,fun j hj=>absurd hj (Nat.not_lt_zero _)⟩ (uKF) ?_
 rintro⟨ck,i⟩ ⟨hi,hj⟩
 simp only at hi hj
 repeat refine uA ?_
 refine uW ?_;refine condP _ rfl (fun h=>?_) (fun h=>?_)
 ·have hlt:i<l.length:=by omega
  have hsat:=hk (l.getD i 0) (mem_getD hlt)
  cases c1:p (l.getD i 0) with
  |true=>
   have e1:=fi_some (p:=p) (d:=0) hlt hj c1
   rw[c1] at hsat
   refine uA ?_
   refine uR1 (ints_getD hlt) ?_;intro K hK
   refine uH ?_
   refine callF uTS (hsat) uTS uTS uTS ?_;refine uS ?_
   refine hK _ ?_;clear hK K
   refine uT ?_
   repeat refine uA ?_
   (refine awp_ret (ret1 uRT ?_);try rfl)
   first|refine uS1 @e1 ?_|exact uX1 @e1
  |false=>
   rw[c1] at hsat
   refine uA ?_
   refine uR1 (ints_getD hlt) ?_;intro K hK
   refine uH ?_
   refine callF uTS (hsat) uTS uTS uTS ?_;refine uS ?_
   refine hK _ ?_;clear hK K
   refine uF ?_
   repeat refine uA ?_
   refine⟨(_,i+1),⟨by simp only;omega,fun j hj'=>?_⟩,by simp only;omega,uKF⟩
   by_cases hji:j=i
   ·subst hji;exact c1
   ·exact hj j (by simp only at hj';omega)
 ·refine awp_exit ?_
  have e1:=fi_none (l:=l) (p:=p) fun j h=>hj j (by omega)
  repeat refine uA ?_
  (refine awp_ret (ret1 uRT ?_);try rfl)
  first|refine uS1 @e1 ?_|exact uX1 @e1
theorem ixfF_sat (l:List T3) (k:Nat) (cs:List AV) (p:T3->Bool) (hl:l.length<=1000) (hk:∀y∈l,SatG Tryz.prog tab k [] [y.av, .ptI cs] [] (B (p y))):SatG Tryz.prog tab 116 [] [.sl (t3s l) false, .fn k [.ptI cs]] [] (I (idxR p l)):=by
 refine uFN Tryz.func116 Tryz.ntmps116 ?_;intro w e X hC
 repeat refine uA ?_
 refine uW ?_
 refine awp_loopW (fun i:Nat×Nat=>⟨[(1, .fn k [.ptI cs]),(0, .sl (t3s l) false),(6, .sl (t3s l) false),(7,I l.length),(8,I i.2)],[],i.1⟩) (fun i=>i.2<=l.length/\∀j,j<i.2->p (l.getD j default)=false) (fun i=>l.length - i.2) (_,0) ⟨Nat.zero_le _,fun j hj=>absurd hj (Nat.not_lt_zero _)⟩ (uKF) ?_
 rintro⟨ck,i⟩ ⟨hi,hj⟩
 simp only at hi hj
 repeat refine uA ?_
 refine uW ?_;refine condP _ rfl (fun h=>?_) (fun h=>?_)
 ·have hlt:i<l.length:=by omega
  have hsat:=hk (l.getD i default) (mem_getD hlt)
  cases c1:p (l.getD i default) with
  |true=>
   have e1:=fi_some (p:=p) (d:=default) hlt hj c1
   rw[c1] at hsat
   refine uA ?_
   refine uR1 (t3s_getD hlt) ?_;intro K hK
   refine uH ?_
   refine callF uTS (hsat) uTS uTS uTS ?_;refine uS ?_
   refine hK _ ?_;clear hK K
   refine uT ?_
   repeat refine uA ?_
   (refine awp_ret (ret1 uRT ?_);try rfl)
   first|refine uS1 @e1 ?_|exact uX1 @e1
  |false=>
   rw[c1] at hsat
   refine uA ?_
   refine uR1 (t3s_getD hlt) ?_;intro K hK
   refine uH ?_
   refine callF uTS (hsat) uTS uTS uTS ?_;refine uS ?_
   refine hK _ ?_;clear hK K
   refine uF ?_
   repeat refine uA ?_
   refine⟨(_,i+1),⟨by simp only;omega,fun j hj'=>?_⟩,by simp only;omega,uKF⟩
   by_cases hji:j=i
   ·subst hji;exact c1
   ·exact hj j (by simp only at hj';omega)
 ·refine awp_exit ?_
  have e1:=fi_none (l:=l) (p:=p) fun j h=>hj j (by omega)
  repeat refine uA ?_
  (refine awp_ret (ret1 uRT ?_);try rfl)
  first|refine uS1 @e1 ?_|exact uX1 @e1
theorem cxfF_sat (l:List T3) (k:Nat) (cs:List AV) (p:T3->Bool) (hl:l.length<=1000) (hk:∀y∈l,SatG Tryz.prog tab k [] [y.av, .ptI cs] [] (B (p y))):SatG Tryz.prog tab 78 [] [.sl (t3s l) false, .fn k [.ptI cs]] [] (B (l.any p)):=by
 refine uFN Tryz.func78 Tryz.ntmps78 ?_;intro w e X hC
 refine uA ?_
 refine uR ?_;intro K hK
 refine callF uTS ((ixfF_sat l k cs p hl hk)) uTS uTS uTS ?_;refine uS ?_
 refine hK _ ?_;clear hK K
 refine uW ?_
 (refine awp_ret (ret1 uRT ?_);try rfl)
 first|refine uS1 @idx_any ?_|exact uX1 @idx_any
theorem ixfP_sat (l:List T3) (k:Nat) (p:T3->Bool) (hl:l.length<=1000) (hk:∀y∈l,SatG Tryz.prog tab k [] [y.av] [] (B (p y))):SatG Tryz.prog tab 125 [] [.sl (t3s l) false, .fn k []] [] (I (idxR p l)):=by
 refine uFN Tryz.func125 Tryz.ntmps125 ?_;intro w e X hC
 repeat refine uA ?_
 refine uW ?_
 refine awp_loopW (fun i:Nat×Nat=>⟨[(1, .fn k []),(0, .sl (t3s l) false),(6, .sl (t3s l) false),(7,I l.length),(8,I i.2)],[],i.1⟩) (fun i=>i.2<=l.length/\∀j,j<i.2->p (l.getD j default)=false) (fun i=>l.length - i.2) (_,0) ⟨Nat.zero_le _,fun j hj=>absurd hj (Nat.not_lt_zero _)⟩ (uKF) ?_
 rintro⟨ck,i⟩ ⟨hi,hj⟩
 simp only at hi hj
 repeat refine uA ?_
 refine uW ?_;refine condP _ rfl (fun h=>?_) (fun h=>?_)
 ·have hlt:i<l.length:=by omega
  have hsat:=hk (l.getD i default) (mem_getD hlt)
  cases c1:p (l.getD i default) with
  |true=>
   have e1:=fi_some (p:=p) (d:=default) hlt hj c1
   rw[c1] at hsat
   refine uA ?_
   refine uR1 (t3s_getD hlt) ?_;intro K hK
   refine uH ?_
   refine callF uTS (hsat) uTS uTS uTS ?_;refine uS ?_
   refine hK _ ?_;clear hK K
   refine uT ?_
   repeat refine uA ?_
   (refine awp_ret (ret1 uRT ?_);try rfl)
   first|refine uS1 @e1 ?_|exact uX1 @e1
  |false=>
   rw[c1] at hsat
   refine uA ?_
   refine uR1 (t3s_getD hlt) ?_;intro K hK
   refine uH ?_
   refine callF uTS (hsat) uTS uTS uTS ?_;refine uS ?_
   refine hK _ ?_;clear hK K
   refine uF ?_
   repeat refine uA ?_
   refine⟨(_,i+1),⟨by simp only;omega,fun j hj'=>?_⟩,by simp only;omega,uKF⟩
   by_cases hji:j=i
   ·subst hji;exact c1
   ·exact hj j (by simp only at hj';omega)
 ·refine awp_exit ?_
  have e1:=fi_none (l:=l) (p:=p) fun j h=>hj j (by omega)
  repeat refine uA ?_
  (refine awp_ret (ret1 uRT ?_);try rfl)
  first|refine uS1 @e1 ?_|exact uX1 @e1
theorem ixfN_sat (l:List Nd) (k:Nat) (cs:List AV) (p:Nd->Bool) (hl:l.length<=1000) (hk:∀y∈l,SatG Tryz.prog tab k [] [y.av, .ptI cs] [] (B (p y))):SatG Tryz.prog tab 143 [] [.sl (nds l) false, .fn k [.ptI cs]] [] (I (idxR p l)):=by
 refine uFN Tryz.func143 Tryz.ntmps143 ?_;intro w e X hC
 repeat refine uA ?_
 refine uW ?_
 refine awp_loopW (fun i:Nat×Nat=>⟨[(1, .fn k [.ptI cs]),(0, .sl (nds l) false),(6, .sl (nds l) false),(7,I l.length),(8,I i.2)],[],i.1⟩) (fun i=>i.2<=l.length/\∀j,j<i.2->p (l.getD j default)=false) (fun i=>l.length - i.2) (_,0) ⟨Nat.zero_le _,fun j hj=>absurd hj (Nat.not_lt_zero _)⟩ (uKF) ?_
 rintro⟨ck,i⟩ ⟨hi,hj⟩
 simp only at hi hj
 repeat refine uA ?_
 refine uW ?_;refine condP _ rfl (fun h=>?_) (fun h=>?_)
 ·have hlt:i<l.length:=by omega
  have hsat:=hk (l.getD i default) (mem_getD hlt)
  cases c1:p (l.getD i default) with
  |true=>
   have e1:=fi_some (p:=p) (d:=default) hlt hj c1
   rw[c1] at hsat
   refine uA ?_
   refine uR1 (nds_getD hlt) ?_;intro K hK
   refine uH ?_
   refine callF uTS (hsat) uTS uTS uTS ?_;refine uS ?_
   refine hK _ ?_;clear hK K
   refine uT ?_
   repeat refine uA ?_
   (refine awp_ret (ret1 uRT ?_);try rfl)
   first|refine uS1 @e1 ?_|exact uX1 @e1
  |false=>
   rw[c1] at hsat
   refine uA ?_
   refine uR1 (nds_getD hlt) ?_;intro K hK
   refine uH ?_
   refine callF uTS (hsat) uTS uTS uTS ?_;refine uS ?_
   refine hK _ ?_;clear hK K
   refine uF ?_
   repeat refine uA ?_
   refine⟨(_,i+1),⟨by simp only;omega,fun j hj'=>?_⟩,by simp only;omega,uKF⟩
   by_cases hji:j=i
   ·subst hji;exact c1
   ·exact hj j (by simp only at hj';omega)
 ·refine awp_exit ?_
  have e1:=fi_none (l:=l) (p:=p) fun j h=>hj j (by omega)
  repeat refine uA ?_
  (refine awp_ret (ret1 uRT ?_);try rfl)
  first|refine uS1 @e1 ?_|exact uX1 @e1
theorem ixfM_sat (l:List Nd) (k:Nat) (p:Nd->Bool) (hl:l.length<=1000) (hk:∀y∈l,SatG Tryz.prog tab k [] [y.av] [] (B (p y))):SatG Tryz.prog tab 143 [] [.sl (nds l) false, .fn k []] [] (I (idxR p l)):=by
 refine uFN Tryz.func143 Tryz.ntmps143 ?_;intro w e X hC
 repeat refine uA ?_
 refine uW ?_
 refine awp_loopW (fun i:Nat×Nat=>⟨[(1, .fn k []),(0, .sl (nds l) false),(6, .sl (nds l) false),(7,I l.length),(8,I i.2)],[],i.1⟩) (fun i=>i.2<=l.length/\∀j,j<i.2->p (l.getD j default)=false) (fun i=>l.length - i.2) (_,0) ⟨Nat.zero_le _,fun j hj=>absurd hj (Nat.not_lt_zero _)⟩ (uKF) ?_
 rintro⟨ck,i⟩ ⟨hi,hj⟩
 simp only at hi hj
 repeat refine uA ?_
 refine uW ?_;refine condP _ rfl (fun h=>?_) (fun h=>?_)
 ·have hlt:i<l.length:=by omega
  have hsat:=hk (l.getD i default) (mem_getD hlt)
  cases c1:p (l.getD i default) with
  |true=>
   have e1:=fi_some (p:=p) (d:=default) hlt hj c1
   rw[c1] at hsat
   refine uA ?_
   refine uR1 (nds_getD hlt) ?_;intro K hK
   refine uH ?_
   refine callF uTS (hsat) uTS uTS uTS ?_;refine uS ?_
   refine hK _ ?_;clear hK K
   refine uT ?_
   repeat refine uA ?_
   (refine awp_ret (ret1 uRT ?_);try rfl)
   first|refine uS1 @e1 ?_|exact uX1 @e1
  |false=>
   rw[c1] at hsat
   refine uA ?_
   refine uR1 (nds_getD hlt) ?_;intro K hK
   refine uH ?_
   refine callF uTS (hsat) uTS uTS uTS ?_;refine uS ?_
   refine hK _ ?_;clear hK K
   refine uF ?_
   repeat refine uA ?_
   refine⟨(_,i+1),⟨by simp only;omega,fun j hj'=>?_⟩,by simp only;omega,uKF⟩
   by_cases hji:j=i
   ·subst hji;exact c1
   ·exact hj j (by simp only at hj';omega)
 ·refine awp_exit ?_
  have e1:=fi_none (l:=l) (p:=p) fun j h=>hj j (by omega)
  repeat refine uA ?_
  (refine awp_ret (ret1 uRT ?_);try rfl)
  first|refine uS1 @e1 ?_|exact uX1 @e1
theorem cxfM_sat (l:List Nd) (k:Nat) (p:Nd->Bool) (hl:l.length<=1000) (hk:∀y∈l,SatG Tryz.prog tab k [] [y.av] [] (B (p y))):SatG Tryz.prog tab 107 [] [.sl (nds l) false, .fn k []] [] (B (l.any p)):=by
 refine uFN Tryz.func107 Tryz.ntmps107 ?_;intro w e X hC
 refine uA ?_
 refine uR ?_;intro K hK
 refine callF uTS ((ixfM_sat l k p hl hk)) uTS uTS uTS ?_;refine uS ?_
 refine hK _ ?_;clear hK K
 refine uW ?_
 (refine awp_ret (ret1 uRT ?_);try rfl)
 first|refine uS1 @idx_any ?_|exact uX1 @idx_any
abbrev plB (y:Ly) (ord:List Int):List AV:=[.sl (nds y.nodes) false, .sl (t3s y.devs) false,IS ord]
def wntP (x:Nd) (sl bin:List Int) (c:Int) (fs:List T3) (n:Nat):Int:=
 if x.kd=7 then(if bin.any (fun y=>decide (c=y))=true then 0 else -1)
 else if isStrip x.kd=false then -1
 else if sl.getD (x.ln.toNat - 1) 0=0\/fs.any (fun y=>eqT ⟨1,n,x.ln - 1⟩ y)=true then -1 else c
theorem wanted_sat (y:Ly) (p:Pl) (ord:List Int) (c:Int) (fs:List T3) (n:Nat) (hp:FitP y.nodes p) (hf:fs.length<=1000) (hn:n<y.nodes.length):
  SatG Tryz.prog tab 117 [] [.ptI (plB y ord),p.av,I n,I c, .sl (t3s fs) false] [] (I (wntP (y.nodes.getD n default) (p.slots.getD n []) (p.bins.getD n []) c fs n)):=by
 have hxl:=hp.xl
 have hns:n<p.slots.length:=by rw[hp.sl];exact hn
 have hnb:n<p.bins.length:=by rw[hp.bl];exact hn
 have hrl:=hp.row n hn
 have hbl:=hp.bin n hn
 have hln:=hp.ln n hn
 have hst:=hp.st n hn
 generalize e2:y.nodes.getD n default=x at*
 generalize e3:p.slots.getD n []=sl at*
 generalize e4:p.bins.getD n []=bin at*
 refine uFN Tryz.func117 Tryz.ntmps117 ?_;intro w e X hC
 iterate 2 refine uA1 (uI (nds_getD hn) @e2) ?_
 by_cases c1:x.kd=7
 ·have d1:decide (x.kd=7)=true:=decide_eq_true c1
  repeat first|refine uC ?_|refine uA1 @d1 ?_
  cases c2:bin.any (fun y=>decide (c=y)) with
  |true=>
   have e1:wntP x sl bin c fs n=0:=by rw[wntP,if_pos c1,if_pos c2]
   refine uR1 (uI (rows_getD hnb) @e4) ?_;intro K hK
   refine uH ?_
   refine callF uTS ((containsI_sat bin c (by omega))) uTS uTS uTS ?_;refine uS ?_
   first|refine uS1 @c2 ?_|exact uX1 @c2
   refine uH ?_
   refine hK _ ?_;clear hK K
   refine uT ?_
   repeat refine uA ?_
   (refine awp_ret (ret1 uRT ?_);try rfl)
   first|refine uS1 @e1 ?_|exact uX1 @e1
  |false=>
   have e1:wntP x sl bin c fs n=-1:=by rw[wntP,if_pos c1,if_neg (by simp[c2])]
   refine uR1 (uI (rows_getD hnb) @e4) ?_;intro K hK
   refine uH ?_
   refine callF uTS ((containsI_sat bin c (by omega))) uTS uTS uTS ?_;refine uS ?_
   first|refine uS1 @c2 ?_|exact uX1 @c2
   refine uH ?_
   refine hK _ ?_;clear hK K
   refine uF ?_
   repeat refine uA ?_
   (refine awp_ret (ret1 uRT ?_);try rfl)
   first|refine uS1 @e1 ?_|exact uX1 @e1
 ·have d1:decide (x.kd=7)=false:=decide_eq_false c1
  repeat first|refine uC ?_|refine uA1 @d1 ?_
  cases c2:isStrip x.kd with
  |false=>
   have e1:wntP x sl bin c fs n=-1:=by rw[wntP,if_neg c1,if_pos c2]
   refine uR ?_;intro K hK
   refine callF uTS ((fstrip_sat x.kd)) uTS uTS uTS ?_;refine uS ?_
   first|refine uS1 @c2 ?_|exact uX1 @c2
   refine hK _ ?_;clear hK K
   refine uT ?_
   repeat refine uA ?_
   (refine awp_ret (ret1 uRT ?_);try rfl)
   first|refine uS1 @e1 ?_|exact uX1 @e1
  |true=>
   have hl1:=hst c2
   obtain⟨q,hq⟩:∃q,q=x.ln.toNat - 1:=⟨_,rfl⟩
   have hqq:x.ln - 1=(q:Int):=by omega
   have hql:q<sl.length:=by omega
   have e1:wntP x sl bin c fs n=if sl.getD q 0=0\/fs.any (fun y=>eqT ⟨1,n,q⟩ y)=true then -1 else c:=by rw[wntP,if_neg c1,if_neg (by simp[c2]),<-hq,hqq]
   refine uR ?_;intro K hK
   refine callF uTS ((fstrip_sat x.kd)) uTS uTS uTS ?_;refine uS ?_
   first|refine uS1 @c2 ?_|exact uX1 @c2
   refine hK _ ?_;clear hK K
   refine uF ?_
   refine uA1 @hqq ?_
   by_cases c3:sl.getD q 0=0
   ·have d3:decide (sl.getD q 0=0)=true:=decide_eq_true c3
    rw[if_pos (.inl c3)] at e1
    refine uR1 (uI (rows_getD hns) (uI @e3 (uI (ints_getD hql) @d3))) ?_;intro K hK
    refine uH ?_
    refine hK _ ?_;clear hK K
    refine uT ?_
    repeat refine uA ?_
    (refine awp_ret (ret1 uRT ?_);try rfl)
    first|refine uS1 @e1 ?_|exact uX1 @e1
   ·have d3:decide (sl.getD q 0=0)=false:=decide_eq_false c3
    cases c4:fs.any (fun y=>eqT ⟨1,n,q⟩ y) with
    |true=>
     rw[if_pos (.inr c4)] at e1
     refine uR1 (uI (rows_getD hns) (uI @e3 (uI (ints_getD hql) @d3))) ?_;intro K hK
     refine uH ?_
     refine callF uTS ((containsF_sat fs ⟨1,n,q⟩ hf)) uTS uTS uTS ?_;refine uS ?_
     first|refine uS1 @c4 ?_|exact uX1 @c4
     refine uH ?_
     refine hK _ ?_;clear hK K
     refine uT ?_
     repeat refine uA ?_
     (refine awp_ret (ret1 uRT ?_);try rfl)
     first|refine uS1 @e1 ?_|exact uX1 @e1
    |false=>
     rw[if_neg (fun h=>h.elim c3 (fun h=>by rw[c4] at h;cases h))] at e1
     refine uR1 (uI (rows_getD hns) (uI @e3 (uI (ints_getD hql) @d3))) ?_;intro K hK
     refine uH ?_
     refine callF uTS ((containsF_sat fs ⟨1,n,q⟩ hf)) uTS uTS uTS ?_;refine uS ?_
     first|refine uS1 @c4 ?_|exact uX1 @c4
     refine uH ?_
     refine hK _ ?_;clear hK K
     refine uF ?_
     repeat refine uA ?_
     (refine awp_ret (ret1 uRT ?_);try rfl)
     first|refine uS1 @e1 ?_|exact uX1 @e1
abbrev U (n:Nat):AV:= .lit (.int .u64 (n:Int))
def tz:Nat->Nat->Nat
 |0,_=>0
 |f+1,S=>if S % 2=1 then 0 else 1+tz f (S / 2)
theorem tz_le:∀f S,tz f S<=f
 |0,_=>Nat.le_refl _
 |f+1,S=>by
  have:=tz_le f (S / 2)
  rw[tz];split<;>omega
def tzX (S:Int):Int:=shrK .u64 (IntKind.u64.wrap (andK .u64 S (IntKind.u64.wrap (0 - S))*285870213051353865)) 58
theorem tz_all:((List.range 2048).all fun S=>decide (S=0)||(decide (0<=tzX S)&&(decide (tzX S<64)&&decide (d64.getD (tzX S).toNat 0=(tz 11 S:Int)))))=true:=by kernel_rfl
theorem tz_ok {S:Nat} (h:S<2048) (h0:S≠0):0<=tzX S/\tzX S<64/\d64.getD (tzX S).toNat 0=(tz 11 S:Int):=by
 have:=List.all_eq_true.1 tz_all S (List.mem_range.2 h)
 simp only[Bool.or_eq_true,Bool.and_eq_true,decide_eq_true_eq] at this
 rcases this with h|h
 ·exact absurd h h0
 ·exact h
theorem glu2:glu tab.gl 2=some (d64.map fun n=>AV.lit (.int .u8 n)):=rfl
theorem d64_len:d64.length=64:=rfl
theorem drop_get {l:List Int} {k:Nat} (h:k<l.length):(List.drop k (l.map fun n=>AV.lit (.int .u8 n))).getD 0 .bad= .lit (.int .u8 (l.getD k 0)):=by
 simp[List.getD_eq_getElem?_getD,h]
theorem tz64_sat (S:Nat) (h:S<2048) (h0:S≠0):SatG Tryz.prog tab 160 [] [U S] [] (I (tz 11 S)):=by
 obtain⟨z1,z2,z3⟩:=tz_ok h h0
 have d1:decide ((S:Int)=0)=false:=decide_eq_false (by omega)
 have ez:shrK .u64 (IntKind.u64.wrap (andK .u64 S (IntKind.u64.wrap (0 - S))*285870213051353865)) 58=tzX S:=rfl
 have hlt:(tzX S).toNat<d64.length:=by rw[d64_len];omega
 have hw:IntKind.i64.wrap ((tz 11 S:Nat):Int)=(tz 11 S:Nat):=wrap_i64 ⟨by omega,by have:=tz_le 11 S;omega⟩
 refine uFN Tryz.func160 Tryz.ntmps160 ?_;intro w e X hC
 iterate 2 refine uA1 @d1 ?_
 refine uF ?_
 generalize e9:tzX S=q at*
 refine uR1 (uI @glu2 (uI @Nat.mul_one (uI @List.length_drop.{0} (uI @d64_len (uI @ez (uI (drop_get hlt) (uI @z3 @hw))))))) ?_;intro K hK
 refine uH ?_
 refine hK _ ?_;clear hK K
 (refine awp_ret (ret1 uRT ?_);try rfl)
theorem tz_sat (S:Nat) (h:S<2048) (h0:S≠0):SatG Tryz.prog tab 119 [] [U S] [] (I (tz 11 S)):=by
 refine uFN Tryz.func119 Tryz.ntmps119 ?_;intro w e X hC
 refine uA ?_
 refine uF ?_
 refine uR ?_;intro K hK
 refine callF uTS ((tz64_sat S h h0)) uTS uTS uTS ?_;refine uS ?_
 refine hK _ ?_;clear hK K
 (refine awp_ret (ret1 uRT ?_);try rfl)
def cmr (xs:List Nd) (W:List Int) (n m:Nat):Bool:=decide (m≠n)&&(decide (0<=W.getD m 0)&&decide ((xs.getD m default).ex.getD (W.getD m 0).toNat 0=n))
def comN (xs:List Nd) (W:List Int) (n:Nat):Nat->Nat
 |0=>0
 |m+1=>if cmr xs W n m=true then comN xs W n m ||| 2^m else comN xs W n m
theorem comN_lt (xs:List Nd) (W:List Int) (n:Nat):∀m,comN xs W n m<2^m
 |0=>by simp[comN]
 |m+1=>by
  have ih:=comN_lt xs W n m
  rw[comN]
  split
  ·exact Nat.or_lt_two_pow (Nat.lt_trans ih (Nat.pow_lt_pow_right (by omega) (by omega))) (Nat.pow_lt_pow_right (by omega) (by omega))
  ·exact Nat.lt_trans ih (Nat.pow_lt_pow_right (by omega) (by omega))
theorem u64_shl:∀m:Fin 24,shlK .u64 1 (m:Nat)=((2^(m:Nat):Nat):Int):=by decide
theorem u64_nat {a:Nat} (h:a<2^64):IntKind.u64.wrap (a:Int)=a:=by
 simp only[IntKind.wrap,IntKind.bits,IntKind.signed,Bool.false_and,Bool.false_eq_true,false_and,if_false]
 omega
theorem u64_or {a b:Nat} (ha:a<2^24) (hb:b<2^24):orK .u64 a b=((a ||| b:Nat):Int):=by
 show IntKind.u64.wrap ((BitVec.ofInt 64 (a:Int) ||| BitVec.ofInt 64 (b:Int)).toNat:Nat)=_
 rw[BitVec.toNat_or,BitVec.ofInt_natCast,BitVec.ofInt_natCast,BitVec.toNat_ofNat,BitVec.toNat_ofNat,Nat.mod_eq_of_lt (by omega),Nat.mod_eq_of_lt (by omega)]
 have:=Nat.or_lt_two_pow ha hb
 exact u64_nat (by omega)
theorem comers_sat (y:Ly) (ord W:List Int) (n:Nat) (hy:y.nodes.length<=24) (hW:W.length=y.nodes.length) (hx:∀m,m<y.nodes.length->0<=W.getD m 0->W.getD m 0<(y.nodes.getD m default).ex.length):
  SatG Tryz.prog tab 118 [] [.ptI (plB y ord),IS W,I n] [] (U (comN y.nodes W n W.length)):=by
 refine uFN Tryz.func118 Tryz.ntmps118 ?_;intro w e X hC
 repeat refine uA ?_
 refine uW ?_
 refine awp_loopW (fun i:Nat×Nat=>⟨[(0, .ptI (plB y ord)),(2,I n),(7,U (comN y.nodes W n i.2)),(10,IS W),(11,I W.length),(12,I i.2)],[],i.1⟩) (fun i=>i.2<=W.length) (fun i=>W.length - i.2) (_,0) (Nat.zero_le _) (uKF) ?_
 rintro⟨ck,m⟩ hm
 simp only at hm
 repeat refine uA ?_
 refine uW ?_;refine condP _ rfl (fun h=>?_) (fun h=>?_)
 ·have hlt:m<W.length:=by omega
  have hmn:m<y.nodes.length:=by omega
  have hxm:=hx m hmn
  have e1:comN y.nodes W n (m+1)=if cmr y.nodes W n m=true then comN y.nodes W n m ||| 2^m else comN y.nodes W n m:=rfl
  have hcl:=comN_lt y.nodes W n m
  have hp2:2^m<=2^23:=Nat.pow_le_pow_right (by omega) (by omega)
  have hsh:=u64_shl ⟨m,by omega⟩
  have hor:=u64_or (a:=comN y.nodes W n m) (b:=2^m) (by omega) (by omega)
  simp only at hsh
  refine uA1 (ints_getD hlt) ?_
  unfold cmr at e1
  generalize W.getD m 0=v at*
  generalize e2:y.nodes.getD m default=x at*
  generalize comN y.nodes W n m=S at*
  by_cases c1:m=n
  ·have d1:decide (¬(m:Int)=n)=false:=decide_eq_false (by omega)
   rw[if_neg (by simp[c1])] at e1
   repeat first|refine uC ?_|refine uA1 @d1 ?_
   refine⟨(_,m+1),by simp only;omega,by simp only;omega, .of (Nat.le_refl _) uHF (uWF1 @e1)⟩
  ·have d1:decide (¬(m:Int)=n)=true:=decide_eq_true (by omega)
   by_cases c2:0<=v
   ·have d2:decide (0<=v)=true:=decide_eq_true c2
    obtain⟨k,hk⟩:∃k,k=v.toNat:=⟨_,rfl⟩
    have hvk:v=(k:Int):=by omega
    have hkl:k<x.ex.length:=by have:=hxm c2;omega
    rw[<-hk] at e1
    subst hvk
    by_cases c3:x.ex.getD k 0=n
    ·have d3:decide (x.ex.getD k 0=(n:Int))=true:=decide_eq_true c3
     rw[if_pos (by simp only[decide_eq_true c1,d2,d3,Bool.and_self])] at e1
     repeat first|refine uC ?_|refine uA1 (uI @d1 (uI @d2 (uI @d3 (uI (nds_getD hmn) (uI @e2 (uI (ints_getD hkl) (uI @hsh @hor))))))) ?_
     refine⟨(_,m+1),by simp only;omega,by simp only;omega, .of (Nat.le_refl _) uHF (uWF1 @e1)⟩
    ·have d3:decide (x.ex.getD k 0=(n:Int))=false:=decide_eq_false c3
     rw[if_neg (by simp only[d3];simp)] at e1
     repeat first|refine uC ?_|refine uA1 (uI @d1 (uI @d2 (uI @d3 (uI (nds_getD hmn) (uI @e2 (ints_getD hkl)))))) ?_
     refine⟨(_,m+1),by simp only;omega,by simp only;omega, .of (Nat.le_refl _) uHF (uWF1 @e1)⟩
   ·have d2:decide (0<=v)=false:=decide_eq_false c2
    rw[if_neg (by simp only[d2];simp)] at e1
    repeat first|refine uC ?_|refine uA1 (uI @d1 @d2) ?_
    refine⟨(_,m+1),by simp only;omega,by simp only;omega, .of (Nat.le_refl _) uHF (uWF1 @e1)⟩
 ·refine awp_exit ?_
  have hm':m=W.length:=by omega
  subst hm'
  repeat refine uA ?_
  (refine awp_ret (ret1 uRT ?_);try rfl)
theorem open_sat (y:Ly) (p:Pl) (ord:List Int) (n:Nat) (hp:FitP y.nodes p) (hn:n<y.nodes.length):SatG Tryz.prog tab 120 [] [.ptI (plB y ord),p.av,I n] [] (B (openR (y.nodes.getD n default) (p.slots.getD n []))):=by
 have hxl:=hp.xl
 have hns:n<p.slots.length:=by rw[hp.sl];exact hn
 have hrl:=hp.row n hn
 have hln:=hp.ln n hn
 have hst:=hp.st n hn
 generalize e2:y.nodes.getD n default=x at*
 generalize e3:p.slots.getD n []=sl at*
 refine uFN Tryz.func120 Tryz.ntmps120 ?_;intro w e X hC
 refine uA ?_
 cases c1:isStrip x.kd with
 |false=>
  have e4:openR x sl=true:=by rw[openR,c1];rfl
  refine uR1 (uI (nds_getD hn) @e2) ?_;intro K hK
  refine uH ?_
  refine callF uTS ((fstrip_sat x.kd)) uTS uTS uTS ?_;refine uS ?_
  first|refine uS1 @c1 ?_|exact uX1 @c1
  refine hK _ ?_;clear hK K
  refine uT ?_
  repeat refine uA ?_
  (refine awp_ret (ret1 uRT ?_);try rfl)
  first|refine uS1 @e4 ?_|exact uX1 @e4
 |true=>
  have hl0:0<sl.length:=by have:=hst c1;omega
  have e4:openR x sl=(decide (sl.getD 0 0=0)&&(decide (¬x.kd=5)||decide (2<=free sl))):=by rw[openR,c1];rfl
  have hfr:free sl<=sl.length:=List.count_le_length
  refine uR1 (uI (nds_getD hn) @e2) ?_;intro K hK
  refine uH ?_
  refine callF uTS ((fstrip_sat x.kd)) uTS uTS uTS ?_;refine uS ?_
  first|refine uS1 @c1 ?_|exact uX1 @c1
  refine hK _ ?_;clear hK K
  refine uF ?_
  by_cases c3:x.kd=5
  ·have d3:decide (x.kd=5)=true:=decide_eq_true c3
   by_cases c4:free sl<2
   ·have d4:decide ((free sl:Int)<2)=true:=decide_eq_true (by omega)
    have d5:decide (2<=free sl)=false:=decide_eq_false (by omega)
    refine uR1 (uI (nds_getD hn) (uI @e2 (uI (rows_getD hns) (uI @e3 @d3)))) ?_;intro K hK
    refine uH ?_
    refine callF uTS ((sfree_sat sl (by omega))) uTS uTS uTS ?_;refine uS ?_
    first|refine uS1 @d4 ?_|exact uX1 @d4
    refine uH ?_
    refine hK _ ?_;clear hK K
    refine uT ?_
    repeat refine uA ?_
    (refine awp_ret (ret1 uRT ?_);try rfl)
    first|refine uS1 (uI @e4 (uI @d5 (uI @c3 (uI @Bool.or_self @Bool.and_false)))) ?_|exact uX1 (uI @e4 (uI @d5 (uI @c3 (uI @Bool.or_self @Bool.and_false))))
   ·have d4:decide ((free sl:Int)<2)=false:=decide_eq_false (by omega)
    have d5:decide (2<=free sl)=true:=decide_eq_true (by omega)
    refine uR1 (uI (nds_getD hn) (uI @e2 (uI (rows_getD hns) (uI @e3 @d3)))) ?_;intro K hK
    refine uH ?_
    refine callF uTS ((sfree_sat sl (by omega))) uTS uTS uTS ?_;refine uS ?_
    first|refine uS1 @d4 ?_|exact uX1 @d4
    refine uH ?_
    refine hK _ ?_;clear hK K
    refine uF ?_
    repeat refine uA1 (uI (rows_getD hns) (uI @e3 (uI (ints_getD hl0) @Int.toNat_zero))) ?_
    (refine awp_ret (ret1 uRT ?_);try rfl)
    first|refine uS1 (uI @e4 (uI @d5 (uI @Bool.or_true @Bool.and_true))) ?_|exact uX1 (uI @e4 (uI @d5 (uI @Bool.or_true @Bool.and_true)))
  ·have d3:decide (x.kd=5)=false:=decide_eq_false c3
   refine uR1 (uI (nds_getD hn) (uI @e2 (uI (rows_getD hns) (uI @e3 @d3)))) ?_;intro K hK
   refine uH ?_
   refine hK _ ?_;clear hK K
   refine uF ?_
   repeat refine uA1 (uI (rows_getD hns) (uI @e3 (uI (ints_getD hl0) @Int.toNat_zero))) ?_
   (refine awp_ret (ret1 uRT ?_);try rfl)
   first|refine uS1 (uI @e4 (uI @c3 (uI @Bool.true_or @Bool.and_true))) ?_|exact uX1 (uI @e4 (uI @c3 (uI @Bool.true_or @Bool.and_true)))
theorem fits_sat (y:Ly) (p:Pl) (ord:List Int) (hp:FitP y.nodes p):SatG Tryz.prog tab 45 [] [.ptI (plB y ord),p.av] [] (B true):=by
 have hxl:=hp.xl
 have hsl:=hp.sl
 have hbl:=hp.bl
 have d1:decide (¬(p.slots.length:Int)=y.nodes.length)=false:=decide_eq_false (by omega)
 have d2:decide (¬(p.bins.length:Int)=y.nodes.length)=false:=decide_eq_false (by omega)
 refine uFN Tryz.func45 Tryz.ntmps45 ?_;intro w e X hC
 refine uA ?_
 refine uK1 (uI @d1 @d2) ?_
 refine uF ?_
 repeat refine uA ?_
 refine uW ?_
 refine awp_loopW (fun i:Nat×Nat=>⟨[(3, .ptO 103 1 0 0 0),(33, .sl (nds y.nodes) false),(34,I y.nodes.length),(35,I i.2)],(103,some (1, .box [RS p.slots,RS p.bins]))::[],i.1⟩) (fun i=>i.2<=y.nodes.length) (fun i=>y.nodes.length - i.2) (_,0) (Nat.zero_le _) (uKF) ?_
 rintro⟨ck,i⟩ hi
 simp only at hi
 repeat refine uA ?_
 refine uW ?_;refine condP _ rfl (fun h=>?_) (fun h=>?_)
 ·have hlt:i<y.nodes.length:=by omega
  have hns:i<p.slots.length:=by omega
  have hrl:=hp.row i hlt
  have hln:=hp.ln i hlt
  generalize e2:y.nodes.getD i default=x at*
  generalize e3:p.slots.getD i []=sl at*
  have d3:decide (¬(sl.length:Int)=x.ln)=false:=decide_eq_false (by omega)
  refine uA1 (uI (nds_getD hlt) @e2) ?_
  refine uK1 (uI (rows_getD hns) (uI @e3 @d3)) ?_
  refine uF ?_
  repeat refine uA ?_
  refine⟨(_,i+1),by simp only;omega,by simp only;omega,uKF⟩
 ·refine awp_exit ?_
  repeat refine uA ?_
  (refine awp_ret (ret1 uRT ?_);try rfl)
theorem refused1_sat (f g:T3):SatG Tryz.prog tab 79 [] [g.av, .ptI [I f.a,I f.b,I f.c]] [] (B (decide (f.b=g.b)&&decide (f.c=g.c))):=by
 refine uFN Tryz.func79 Tryz.ntmps79 ?_;intro w e X hC
 refine uA ?_
 by_cases b1:f.b=g.b
 ·have d1:decide (f.b=g.b)=true:=decide_eq_true b1
  repeat first|refine uC ?_|refine uA1 @d1 ?_
  (refine awp_ret (ret1 uRT ?_);try rfl)
  first|refine uS1 (uI @d1 @Bool.true_and) ?_|exact uX1 (uI @d1 @Bool.true_and)
 ·have d1:decide (f.b=g.b)=false:=decide_eq_false b1
  repeat first|refine uC ?_|refine uA1 @d1 ?_
  (refine awp_ret (ret1 uRT ?_);try rfl)
  first|refine uS1 (uI @d1 @Bool.false_and) ?_|exact uX1 (uI @d1 @Bool.false_and)
theorem any_take2 {α:Type} {p:α->Bool} {l:List α} {d:α} {i:Nat} (h:i<=l.length):(l.take i).any p=(List.range i).any fun k=>p (l.getD k d):=by
 induction i with
 |zero=>simp
 |succ i ih=>
  have hi:i<l.length:=by omega
  rw[List.take_add_one,List.getElem?_eq_getElem hi,List.any_append,ih (by omega),List.range_succ,List.any_append]
  simp[hi]
theorem refused_sat (y:Ly) (ord cs:List Int) (fs:List T3) (hy:y.nodes.length<=1000) (hcs:cs.length<=1000) (hfs:fs.length<=1000) (hex:∀n,n<y.nodes.length->(y.nodes.getD n default).ex.length<=500):
  SatG Tryz.prog tab 46 [] [.ptI (plB y ord),IS cs, .sl (t3s fs) false] [] (I (possR y.nodes cs fs)):=by
 refine uFN Tryz.func46 Tryz.ntmps46 ?_;intro w e X hC
 repeat refine uA ?_
 refine uW ?_;refine condP _ rfl (fun c1=>?_) (fun c1=>?_)
 ·repeat refine uA ?_
  (refine awp_ret (ret1 uRT ?_);try rfl)
  rw[possR,if_pos (by omega)];rfl
 ·have c1':¬(cs.length≠y.nodes.length):=by omega
  repeat refine uA ?_
  refine uW ?_
  refine awp_loopW (fun i:Nat×Nat=>⟨[(0, .ptI (plB y ord)),(2, .sl (t3s fs) false),(22,IS cs),(23,I cs.length),(24,I i.2)],[],i.1⟩) (fun i=>i.2<=cs.length/\∀j,j<i.2->cmdOk (y.nodes.getD j default) (cs.getD j 0)=true) (fun i=>cs.length - i.2) (_,0) ⟨Nat.zero_le _,fun j hj=>absurd hj (Nat.not_lt_zero _)⟩ (uKF) ?_
  rintro⟨ck,i⟩ ⟨hi,hj⟩
  simp only at hi hj
  repeat refine uA ?_
  refine uW ?_;refine condP _ rfl (fun h=>?_) (fun h=>?_)
  ·have hlc:i<cs.length:=by omega
   have hlt:i<y.nodes.length:=by omega
   refine uA1 (ints_getD hlc) ?_
   cases c2:cmdOk (y.nodes.getD i default) (cs.getD i 0) with
   |false=>
    refine uR1 (nds_getD hlt) ?_;intro K hK
    refine uH ?_
    refine callF uTS ((known_sat (y.nodes.getD i default) (cs.getD i 0) (by have:=hex i hlt;omega))) uTS uTS uTS ?_;refine uS ?_
    first|refine uS1 @c2 ?_|exact uX1 @c2
    refine uH ?_
    refine hK _ ?_;clear hK K
    repeat first|refine uC ?_|refine uA ?_
    (refine awp_ret (ret1 uRT ?_);try rfl)
    have:cmdsOk y.nodes cs=false:=by
     rw[cmdsOk,List.all_eq_false]
     exact⟨i,List.mem_range.2 hlc,by rw[c2];simp⟩
    rw[possR,if_neg c1',if_pos this];rfl
   |true=>
    refine uR1 (nds_getD hlt) ?_;intro K hK
    refine uH ?_
    refine callF uTS ((known_sat (y.nodes.getD i default) (cs.getD i 0) (by have:=hex i hlt;omega))) uTS uTS uTS ?_;refine uS ?_
    first|refine uS1 @c2 ?_|exact uX1 @c2
    refine uH ?_
    refine hK _ ?_;clear hK K
    repeat first|refine uC ?_|refine uA ?_
    refine⟨(_,i+1),⟨by simp only;omega,fun j hj'=>?_⟩,by simp only;omega,uKF⟩
    by_cases hji:j=i
    ·subst hji;exact c2
    ·exact hj j (by simp only at hj';omega)
  ·refine awp_exit ?_
   have c2:cmdsOk y.nodes cs=true:=by
    rw[cmdsOk,List.all_eq_true]
    intro j hj'
    exact hj j (by have:=List.mem_range.1 hj';omega)
   have c2':¬cmdsOk y.nodes cs=false:=by rw[c2];simp
   clear hj hi h
   repeat refine uA ?_
   refine uW ?_;refine condP _ rfl (fun c3=>?_) (fun c3=>?_)
   ·repeat refine uA ?_
    (refine awp_ret (ret1 uRT ?_);try rfl)
    rw[possR,if_neg c1',if_neg c2',if_pos (by omega)];rfl
   ·have c3':¬4<fs.length:=by omega
    have e0:possR y.nodes cs fs=if firstE y.nodes fs≠0 then firstE y.nodes fs else if dupF fs=true then 5 else 0:=by rw[possR,if_neg c1',if_neg c2',if_neg c3']
    rw[e0]
    repeat refine uA ?_
    refine uW ?_
    refine awp_loopW (fun i:Nat×Nat=>⟨[(0, .ptI (plB y ord)),(2, .sl (t3s fs) false),(44, .sl (t3s fs) false),(45,I fs.length),(46,I i.2)],[],i.1⟩) (fun i=>i.2<=fs.length/\firstE y.nodes fs=firstE y.nodes (fs.drop i.2)) (fun i=>fs.length - i.2) (_,0) ⟨Nat.zero_le _,rfl⟩ (uKF) ?_
    rintro⟨ck,i⟩ ⟨hi,hj⟩
    simp only at hi hj
    repeat refine uA ?_
    refine uW ?_;refine condP _ rfl (fun h=>?_) (fun h=>?_)
    ·have hlt:i<fs.length:=by omega
     have e5:=firstE_drop (xs:=y.nodes) hlt
     rw[e5] at hj
     generalize e3:fs.getD i default=f at*
     refine uA1 (uI (t3s_getD hlt) @e3) ?_
     by_cases k1:f.a≠1/\f.a≠2
     ·have d1:decide (¬f.a=1)=true:=decide_eq_true k1.1
      have d2:decide (¬f.a=2)=true:=decide_eq_true k1.2
      have e6:fltE y.nodes f=4:=if_pos k1
      rw[e6] at hj
      repeat first|refine uC ?_|refine uA1 (uI @d1 @d2) ?_
      (refine awp_ret (ret1 uRT ?_);try rfl)
      rw[hj];rfl
     ·have e7:fltE y.nodes f=if f.b<0\/(y.nodes.length:Int)<=f.b\/f.c<0\/(y.nodes.getD f.b.toNat default).ln<=f.c then 1 else 0:=if_neg k1
      have k2:f.a=1\/f.a=2:=by omega
      by_cases k3:f.b<0\/(y.nodes.length:Int)<=f.b\/f.c<0\/(y.nodes.getD f.b.toNat default).ln<=f.c
      ·rw[if_pos k3] at e7
       rw[e7] at hj
       by_cases b1:f.b<0
       ·rcases k2 with k2|k2
        ·repeat first|refine uC ?_|refine uA1 (uI @e3 (uI @k2 @b1)) ?_
         refine uK1 (uI @e3 (uI @k2 @b1)) ?_
         repeat first|refine uC ?_|refine uA1 @b1 ?_
         (refine awp_ret (ret1 uRT ?_);try rfl)
         rw[hj];rfl
        ·repeat first|refine uC ?_|refine uA1 (uI @e3 (uI @k2 @b1)) ?_
         refine uK1 (uI @e3 (uI @k2 @b1)) ?_
         repeat first|refine uC ?_|refine uA1 @b1 ?_
         (refine awp_ret (ret1 uRT ?_);try rfl)
         rw[hj];rfl
       ·by_cases b2:(y.nodes.length:Int)<=f.b
        ·rcases k2 with k2|k2
         ·repeat first|refine uC ?_|refine uA1 (uI @e3 (uI @k2 (uI @b1 @b2))) ?_
          refine uK1 (uI @e3 (uI @k2 (uI @b1 @b2))) ?_
          repeat first|refine uC ?_|refine uA1 (uI @b1 @b2) ?_
          (refine awp_ret (ret1 uRT ?_);try rfl)
          rw[hj];rfl
         ·repeat first|refine uC ?_|refine uA1 (uI @e3 (uI @k2 (uI @b1 @b2))) ?_
          refine uK1 (uI @e3 (uI @k2 (uI @b1 @b2))) ?_
          repeat first|refine uC ?_|refine uA1 (uI @b1 @b2) ?_
          (refine awp_ret (ret1 uRT ?_);try rfl)
          rw[hj];rfl
        ·by_cases b3:f.c<0
         ·rcases k2 with k2|k2
          ·repeat first|refine uC ?_|refine uA1 (uI @e3 (uI @k2 (uI @b1 (uI @b2 @b3)))) ?_
           refine uK1 (uI @e3 (uI @k2 (uI @b1 (uI @b2 @b3)))) ?_
           repeat first|refine uC ?_|refine uA1 (uI @b1 (uI @b2 @b3)) ?_
           (refine awp_ret (ret1 uRT ?_);try rfl)
           rw[hj];rfl
          ·repeat first|refine uC ?_|refine uA1 (uI @e3 (uI @k2 (uI @b1 (uI @b2 @b3)))) ?_
           refine uK1 (uI @e3 (uI @k2 (uI @b1 (uI @b2 @b3)))) ?_
           repeat first|refine uC ?_|refine uA1 (uI @b1 (uI @b2 @b3)) ?_
           (refine awp_ret (ret1 uRT ?_);try rfl)
           rw[hj];rfl
         ·have b4:(y.nodes.getD f.b.toNat default).ln<=f.c:=by omega
          have hbl:f.b.toNat<y.nodes.length:=by omega
          rcases k2 with k2|k2
          ·repeat first|refine uC ?_|refine uA1 (uI @e3 (uI @k2 (uI @b1 (uI @b2 (uI @b3 (uI @b4 (nds_getD hbl))))))) ?_
           refine uK1 (uI @e3 (uI @k2 (uI @b1 (uI @b2 (uI @b3 (uI @b4 (nds_getD hbl))))))) ?_
           repeat first|refine uC ?_|refine uA1 (uI @b1 (uI @b2 (uI @b3 (uI @b4 (nds_getD hbl))))) ?_
           (refine awp_ret (ret1 uRT ?_);try rfl)
           rw[hj];rfl
          ·repeat first|refine uC ?_|refine uA1 (uI @e3 (uI @k2 (uI @b1 (uI @b2 (uI @b3 (uI @b4 (nds_getD hbl))))))) ?_
           refine uK1 (uI @e3 (uI @k2 (uI @b1 (uI @b2 (uI @b3 (uI @b4 (nds_getD hbl))))))) ?_
           repeat first|refine uC ?_|refine uA1 (uI @b1 (uI @b2 (uI @b3 (uI @b4 (nds_getD hbl))))) ?_
           (refine awp_ret (ret1 uRT ?_);try rfl)
           rw[hj];rfl
      ·rw[if_neg k3] at e7
       rw[e7] at hj
       have b1:¬f.b<0:=fun h=>k3 (.inl h)
       have b2:¬(y.nodes.length:Int)<=f.b:=fun h=>k3 (.inr (.inl h))
       have b3:¬f.c<0:=fun h=>k3 (.inr (.inr (.inl h)))
       have b4:¬(y.nodes.getD f.b.toNat default).ln<=f.c:=fun h=>k3 (.inr (.inr (.inr h)))
       have hbl:f.b.toNat<y.nodes.length:=by omega
       rcases k2 with k2|k2
       ·repeat first|refine uC ?_|refine uA1 (uI @e3 (uI @k2 (uI @b1 (uI @b2 (uI @b3 (uI @b4 (nds_getD hbl))))))) ?_
        refine uK1 (uI @e3 (uI @k2 (uI @b1 (uI @b2 (uI @b3 (uI @b4 (nds_getD hbl))))))) ?_
        repeat first|refine uC ?_|refine uA1 (uI @b1 (uI @b2 (uI @b3 (uI @b4 (nds_getD hbl))))) ?_
        refine⟨(_,i+1),⟨by simp only;omega,by simp only;rw[hj];rfl⟩,by simp only;omega,uKF⟩
       ·repeat first|refine uC ?_|refine uA1 (uI @e3 (uI @k2 (uI @b1 (uI @b2 (uI @b3 (uI @b4 (nds_getD hbl))))))) ?_
        refine uK1 (uI @e3 (uI @k2 (uI @b1 (uI @b2 (uI @b3 (uI @b4 (nds_getD hbl))))))) ?_
        repeat first|refine uC ?_|refine uA1 (uI @b1 (uI @b2 (uI @b3 (uI @b4 (nds_getD hbl))))) ?_
        refine⟨(_,i+1),⟨by simp only;omega,by simp only;rw[hj];rfl⟩,by simp only;omega,uKF⟩
    ·refine awp_exit ?_
     have hfe:¬firstE y.nodes fs≠0:=by rw[hj,List.drop_eq_nil_of_le (by omega)];simp[firstE]
     rw[if_neg hfe]
     clear hj hi h
     repeat refine uA ?_
     refine uW ?_
     refine awp_loopW (fun i:Nat×Nat=>⟨[(2, .sl (t3s fs) false),(95, .sl (t3s fs) false),(96,I fs.length),(97,I i.2)],[],i.1⟩) (fun i=>i.2<=fs.length/\∀j,j<i.2->((List.range j).any fun k=>decide ((fs.getD j default).b=(fs.getD k default).b)&&decide ((fs.getD j default).c=(fs.getD k default).c))=false) (fun i=>fs.length - i.2) (_,0) ⟨Nat.zero_le _,fun j hj=>absurd hj (Nat.not_lt_zero _)⟩ (uKF) ?_
     rintro⟨ck,i⟩ ⟨hi,hj⟩
     simp only at hi hj
     repeat refine uA ?_
     refine uW ?_;refine condP _ rfl (fun h=>?_) (fun h=>?_)
     ·have hlt:i<fs.length:=by omega
      have hlen:(fs.take i).length=i:=by rw[List.length_take];omega
      have hcx:=cxfF_sat (fs.take i) 79 [I (fs.getD i default).a,I (fs.getD i default).b,I (fs.getD i default).c] (fun g=>decide ((fs.getD i default).b=g.b)&&decide ((fs.getD i default).c=g.c)) (by omega) (fun g _=>refused1_sat (fs.getD i default) g)
      rw[any_take2 (d:=default) (by omega)] at hcx
      have hjj:=hj
      refine uA1 (t3s_getD hlt) ?_
      cases c4:(List.range i).any fun k=>decide ((fs.getD i default).b=(fs.getD k default).b)&&decide ((fs.getD i default).c=(fs.getD k default).c) with
      |true=>
       rw[c4] at hcx
       have hd:dupF fs=true:=by
        rw[dupF,List.any_eq_true]
        exact⟨i,List.mem_range.2 hlt,c4⟩
       refine uR1 @t3s_take ?_;intro K hK
       refine uH ?_
       refine callF uTS (hcx) uTS uTS uTS ?_;refine uS ?_
       refine hK _ ?_;clear hK K
       repeat first|refine uC ?_|refine uA ?_
       (refine awp_ret (ret1 uRT ?_);try rfl)
       rw[hd];rfl
      |false=>
       rw[c4] at hcx
       refine uR1 @t3s_take ?_;intro K hK
       refine uH ?_
       refine callF uTS (hcx) uTS uTS uTS ?_;refine uS ?_
       refine hK _ ?_;clear hK K
       repeat first|refine uC ?_|refine uA ?_
       refine⟨(_,i+1),⟨by simp only;omega,fun j hj'=>?_⟩,by simp only;omega,uKF⟩
       by_cases hji:j=i
       ·subst hji;exact c4
       ·exact hj j (by simp only at hj';omega)
     ·refine awp_exit ?_
      have hd:dupF fs=false:=by
       rw[dupF,List.any_eq_false]
       intro j hj'
       rw[hj j (by have:=List.mem_range.1 hj';omega)]
       simp
      repeat refine uA ?_
      (refine awp_ret (ret1 uRT ?_);try rfl)
      rw[hd];rfl
def wnts (xs:List Nd) (p:Pl) (cs:List Int) (fs:List T3) (n:Nat):List Int:=(List.range n).map fun i=>wntP (xs.getD i default) (p.slots.getD i []) (p.bins.getD i []) (cs.getD i 0) fs i
theorem wnts_len (xs:List Nd) (p:Pl) (cs:List Int) (fs:List T3) (n:Nat):(wnts xs p cs fs n).length=n:=by simp[wnts]
theorem wnts_succ (xs:List Nd) (p:Pl) (cs:List Int) (fs:List T3) (n:Nat):wnts xs p cs fs (n+1)=wnts xs p cs fs n++[wntP (xs.getD n default) (p.slots.getD n []) (p.bins.getD n []) (cs.getD n 0) fs n]:=by
 simp[wnts,List.range_succ]
theorem wnts_getD {xs:List Nd} {p:Pl} {cs:List Int} {fs:List T3} {n m:Nat} (h:m<n):(wnts xs p cs fs n).getD m 0=wntP (xs.getD m default) (p.slots.getD m []) (p.bins.getD m []) (cs.getD m 0) fs m:=by
 simp[wnts,List.getD_eq_getElem?_getD,h]
def negs (n:Nat):List Int:=List.replicate n (-1)
theorem negs_succ (n:Nat):negs (n+1)=negs n++[-1]:=by simp[negs,List.replicate_succ']
theorem negs_len (n:Nat):(negs n).length=n:=by simp[negs]
def tzR (W:List Int):Nat->Nat->List Int->List Int
 |0,_,lv=>lv
 |f+1,S,lv=>if S=0 then lv else tzR W f (S &&& (S - 1)) (lv.set (tz 11 S) (W.getD (tz 11 S) 0))
def arnd (x:Nd) (sl:List Int) (w l:Int):Bool:=decide (x.kd=5)&&(decide (0<=w)&&(decide (l<0)&&decide (sl.getD 0 0=0)))
def flS (xs:List Nd) (p:Pl) (W:List Int) (n:Nat) (s:List Int×List Int):List Int×List Int:=
 let x:=xs.getD n default
 let sl:=p.slots.getD n []
 let ar:=arnd x sl (W.getD n 0) (s.1.getD n 0)
 let lv:=if ar=true then s.1.set n 0 else s.1
 let S:=comN xs W n W.length
 if isStrip x.kd=false then(tzR W S S lv,s.2)
 else if S≠0/\openR x sl=true/\ar=false then(lv.set (tz 11 S) (W.getD (tz 11 S) 0),s.2.set n (tz 11 S))
 else(lv,s.2)
def flF (xs:List Nd) (p:Pl) (W ord:List Int):Nat->List Int×List Int
 |0=>(negs xs.length,negs xs.length)
 |c+1=>flS xs p W (ord.getD (ord.length - 1 - c) 0).toNat (flF xs p W ord c)
def flows (xs:List Nd) (p:Pl) (W ord:List Int):List Int×List Int:=flF xs p W ord ord.length
theorem tzR_len (W:List Int):∀f S lv,(tzR W f S lv).length=lv.length
 |0,_,_=>rfl
 |f+1,S,lv=>by
  rw[tzR]
  split
  ·rfl
  ·rw[tzR_len W f];simp
theorem flS_len {xs:List Nd} {p:Pl} {W:List Int} {n:Nat} {s:List Int×List Int}:(flS xs p W n s).1.length=s.1.length/\(flS xs p W n s).2.length=s.2.length:=by
 unfold flS
 simp only
 have:(if arnd (xs.getD n default) (p.slots.getD n []) (W.getD n 0) (s.1.getD n 0)=true then s.1.set n 0 else s.1).length=s.1.length:=by split<;>simp
 split
 ·exact⟨(tzR_len _ _ _ _).trans this,rfl⟩
 ·split
  ·exact⟨by simpa using this,by simp⟩
  ·exact⟨this,rfl⟩
theorem flF_len {xs:List Nd} {p:Pl} {W ord:List Int}:∀c,(flF xs p W ord c).1.length=xs.length/\(flF xs p W ord c).2.length=xs.length
 |0=>⟨negs_len _,negs_len _⟩
 |c+1=>by
  have:=flF_len (xs:=xs) (p:=p) (W:=W) (ord:=ord) c
  rw[flF]
  exact⟨flS_len.1.trans this.1,flS_len.2.trans this.2⟩
theorem tz_lt:∀{f S k:Nat},S≠0->S<2^k->k<=f->tz f S<k
 |0,S,k,h0,h,hk=>by
  have:k=0:=by omega
  subst this
  simp at h
  omega
 |f+1,S,k,h0,h,hk=>by
  have hk0:k≠0:=by rintro rfl;simp at h;omega
  obtain⟨k',rfl⟩:∃k',k=k'+1:=⟨k - 1,by omega⟩
  rw[tz]
  split
  ·omega
  ·have:=tz_lt (f:=f) (S:=S / 2) (k:=k') (by omega) (by rw[Nat.pow_succ] at h;omega) (by omega)
   omega
theorem u64_and {a b:Nat} (ha:a<2^24) (hb:b<2^24):andK .u64 a b=((a &&& b:Nat):Int):=by
 show IntKind.u64.wrap ((BitVec.ofInt 64 (a:Int) &&& BitVec.ofInt 64 (b:Int)).toNat:Nat)=_
 rw[BitVec.toNat_and,BitVec.ofInt_natCast,BitVec.ofInt_natCast,BitVec.toNat_ofNat,BitVec.toNat_ofNat,Nat.mod_eq_of_lt (by omega),Nat.mod_eq_of_lt (by omega)]
 have:a &&& b<=a:=Nat.and_le_left
 exact u64_nat (by omega)
theorem flows_sat (y:Ly) (p:Pl) (ord cs:List Int) (fs:List T3) (hp:FitP y.nodes p) (hN:y.nodes.length<=11) (hc:cs.length=y.nodes.length) (hf:fs.length<=1000)
  (hx:∀m,m<y.nodes.length->0<=(wnts y.nodes p cs fs y.nodes.length).getD m 0->(wnts y.nodes p cs fs y.nodes.length).getD m 0<(y.nodes.getD m default).ex.length)
  (hol:ord.length<=1000) (hord:∀i,i<ord.length->0<=ord.getD i 0/\ord.getD i 0<y.nodes.length):
  SatG Tryz.prog tab 80 [] [.ptI (plB y ord),p.av,IS cs, .sl (t3s fs) false] [] (.agg [IS (flows y.nodes p (wnts y.nodes p cs fs y.nodes.length) ord).1,IS (flows y.nodes p (wnts y.nodes p cs fs y.nodes.length) ord).2]):=by
 have hxl:=hp.xl
 refine SatG_of_awp (T:=tab) tab_ok Tryz.func80 rfl (by rfl) (by simp[Tryz.ntmps80]) ?_
 intro w e X hX hC
 rw[Tryz.ntmps80]
 simp only[tm0,List.zipIdx,List.map]
 iterate 3 refine uA ?_
 refine awp_nil0 301 109 4 3 1 0 (by decide) rfl rfl rfl ?_
 first|refine uS ?_|exact uX
 refine awp_nil0 302 109 4 3 1 1 (by decide) rfl rfl rfl ?_
 first|refine uS ?_|exact uX
 refine awp_nil0 303 110 5 3 1 0 (by decide) rfl rfl rfl ?_
 first|refine uS ?_|exact uX
 repeat refine uA ?_
 refine uW ?_
 refine awp_loopW (fun i:Nat×Nat=>⟨[(2,IS cs),(3, .sl (t3s fs) false),(4, .ptO 104 1 0 0 0),(5, .ptO 105 2 0 0 0),(8, .ptO 108 3 0 0 0),(9, .ptO 109 4 0 0 0),(10, .ptO 110 5 0 0 0),(23,I y.nodes.length),(24,I i.2)],
  (109,some (4, .box [.slO 301 6 0 i.2, .slO 302 7 0 i.2]))::(110,some (5, .box [.slO 303 8 0 i.2]))::(301,some (6, .own 3 1 (ints (negs i.2))))::(302,some (7, .own 3 1 (ints (negs i.2))))::(303,some (8, .own 3 1 (ints (wnts y.nodes p cs fs i.2))))::
  (108,some (3, .box [.sl [] true, .sl [] true]))::(105,some (2, .box [RS p.slots,RS p.bins]))::(104,some (1, .box [.ptI (plB y ord)]))::[],i.1⟩) (fun i=>i.2<=y.nodes.length) (fun i=>y.nodes.length - i.2) (_,0) (Nat.zero_le _) (uKF) ?_
 rintro⟨ck,i⟩ hi
 simp only at hi
 have hnl:=negs_len i
 have hwl:=wnts_len y.nodes p cs fs i
 have e1:=negs_succ i
 have e2:=wnts_succ y.nodes p cs fs i
 have efi:i=y.nodes.length->wnts y.nodes p cs fs i=wnts y.nodes p cs fs y.nodes.length/\negs i=negs y.nodes.length:=fun h=>by rw[h];exact⟨rfl,rfl⟩
 generalize e8:negs i=ng at*
 generalize e9:wnts y.nodes p cs fs i=wn at*
 repeat refine uA ?_
 refine uW ?_;refine condP _ rfl (fun h=>?_) (fun h=>?_)
 ·have hlt:i<y.nodes.length:=by omega
  have hlc:i<cs.length:=by omega
  refine uA ?_
  refine uD1 @hnl ?_;intro K hK
  refine uH ?_
  refine hK _ ?_;clear hK K
  refine uD1 (uI @hwl (ints_getD hlc)) ?_;intro K hK
  refine uH ?_
  refine callF uTS ((wanted_sat y p ord (cs.getD i 0) fs i hp hf hlt)) uTS uTS uTS ?_;refine uS ?_
  first|refine uS1 @hwl ?_|exact uX1 @hwl
  refine uH ?_
  refine hK _ ?_;clear hK K
  repeat refine uA ?_
  refine⟨(_,i+1),by simp only;omega,by simp only;omega, .of (Nat.le_refl _) (uHF1 (uI @e1 @e2)) uWF⟩
 ·refine awp_exit ?_
  have hi':i=y.nodes.length:=by omega
  obtain⟨rfl,rfl⟩:=efi hi'
  subst hi'
  clear hi h e1 e2 efi hnl
  generalize e9:wnts y.nodes p cs fs y.nodes.length=W at*
  refine awp_weak (s':=⟨[(4, .ptO 104 1 0 0 0),(5, .ptO 105 2 0 0 0),(8, .ptO 108 3 0 0 0),(9, .ptO 109 4 0 0 0),(10, .ptO 110 5 0 0 0)],
   (109,some (4, .box [.slO 301 6 0 y.nodes.length, .slO 302 7 0 y.nodes.length]))::(110,some (5, .box [IS W]))::(301,some (6, .own 3 1 (ints (negs y.nodes.length))))::(302,some (7, .own 3 1 (ints (negs y.nodes.length))))::
   (108,some (3, .box [.sl [] false, .sl [] false]))::(105,some (2, .box [RS p.slots,RS p.bins]))::(104,some (1, .box [.ptI (plB y ord)]))::[],_⟩) (uKF) ?_
  refine awp_seq3 ?_
  refine uR ?_;intro K hK
  refine callP uTS ((backward_sat ord)) uTS uTS uTS ?_;refine uS ?_
  refine hK _ ?_;clear hK K
  first|refine uS ?_|exact uX
  refine awp2_backL [(109,0,109,4),(301,0,301,6),(302,0,302,7),(110,0,110,5),(105,0,105,2),(104,0,104,1),(108,0,108,3)] (fun i=>[(109,some (0, .box [.slO 301 0 0 y.nodes.length, .slO 302 0 0 y.nodes.length])),(301,some (0, .own 3 1 (ints (flF y.nodes p W ord i).1))),(302,some (0, .own 3 1 (ints (flF y.nodes p W ord i).2))),(110,some (0, .box [IS W])),(105,some (0, .box [RS p.slots,RS p.bins])),(104,some (0, .box [.ptI (plB y ord)])),(108,some (0, .box [.sl [] false, .sl [] false]))]) [(4, .ptO 104 0 0 0 0),(5, .ptO 105 0 0 0 0),(9, .ptO 109 0 0 0 0),(10, .ptO 110 0 0 0 0)] Tryz.f80 hC rfl rfl back_ok ?_ rfl (by dsimp only;decide) (fun l tm w K h=>assign_one l tm w K h) ?_ ?_ ?_ ?_ ?_ ?_ ?_ ?_ ?_ rfl hX ?_ ?_;(iterate 6 (focus (first|exact trivial|rfl|omega|(simp only[go_sem,Nat.reduceAdd,Nat.reduceSub,Nat.reduceMul,Nat.reduceLT,Nat.reduceEqDiff,Nat.reduceBEq,Nat.reduceLeDiff,Int.reduceToNat,↓reduceIte,Int.reduceEq,Int.reduceLT,Int.reduceLE,Int.reduceAdd,Int.reduceSub,Int.reduceNeg,reduceCtorEq,rnHP,rnHR,rnOP,rnOR,rnH,rnO,List.map_cons,List.map_nil,List.mem_cons,List.not_mem_nil,forall_eq_or_imp,forall_eq,and_true,List.append_nil,List.append_assoc]<;>first|trivial|rfl|(simp;done)|omega)|(simp;done))));(focus (first|exact trivial|rfl|omega|(simp only[go_sem,Nat.reduceAdd,Nat.reduceSub,Nat.reduceMul,Nat.reduceLT,Nat.reduceEqDiff,Nat.reduceBEq,Nat.reduceLeDiff,Int.reduceToNat,↓reduceIte,Int.reduceEq,Int.reduceLT,Int.reduceLE,Int.reduceAdd,Int.reduceSub,Int.reduceNeg,reduceCtorEq,rnHP,rnHR,rnOP,rnOR,rnH,rnO,List.map_cons,List.map_nil,List.mem_cons,List.not_mem_nil,forall_eq_or_imp,forall_eq,and_true,List.append_nil,List.append_assoc,flF]<;>first|trivial|rfl|(simp;done)|omega)|(simp;done)));(iterate 3 (focus (first|exact trivial|rfl|omega|(simp only[go_sem,Nat.reduceAdd,Nat.reduceSub,Nat.reduceMul,Nat.reduceLT,Nat.reduceEqDiff,Nat.reduceBEq,Nat.reduceLeDiff,Int.reduceToNat,↓reduceIte,Int.reduceEq,Int.reduceLT,Int.reduceLE,Int.reduceAdd,Int.reduceSub,Int.reduceNeg,reduceCtorEq,rnHP,rnHR,rnOP,rnOR,rnH,rnO,List.map_cons,List.map_nil,List.mem_cons,List.not_mem_nil,forall_eq_or_imp,forall_eq,and_true,List.append_nil,List.append_assoc]<;>first|trivial|rfl|(simp;done)|omega)|(simp;done))))
  ·clear hX hC
   intro i hi w e rd X hC
   have ho:=hord (ord.length - 1 - i) (by omega)
   have e1:flF y.nodes p W ord (i+1)=flS y.nodes p W (ord.getD (ord.length - 1 - i) 0).toNat (flF y.nodes p W ord i):=rfl
   have hl:=flF_len (xs:=y.nodes) (p:=p) (W:=W) (ord:=ord) i
   obtain⟨n,hn⟩:∃n:Nat,n=(ord.getD (ord.length - 1 - i) 0).toNat:=⟨_,rfl⟩
   have hnn:ord.getD (ord.length - 1 - i) 0=(n:Int):=by omega
   have hnl:n<y.nodes.length:=by omega
   rw[<-hn] at e1
   simp only[hnn]
   clear hnn hn ho
   generalize flF y.nodes p W ord i=st at*
   generalize flF y.nodes p W ord (i+1)=st2 at*
   obtain⟨lv,en⟩:=st
   obtain⟨hl1,hl2⟩:=hl
   simp only at hl1 hl2
   have hns:n<p.slots.length:=by rw[hp.sl];exact hnl
   have hnw:n<W.length:=by omega
   have hnv:n<lv.length:=by omega
   have hrl:=hp.row n hnl
   have hln:=hp.ln n hnl
   have hst:=hp.st n hnl
   have hopen:=open_sat y p ord n hp hnl
   have hcom:=comers_sat y ord W n (by omega) hwl (fun m hm h0=>hx m hm h0)
   have hSlt:=comN_lt y.nodes W n W.length
   rw[hwl] at hSlt hcom
   unfold flS at e1
   simp only[hwl] at e1
   generalize e2:y.nodes.getD n default=x at*
   generalize e3:p.slots.getD n []=sl at*
   generalize e4:W.getD n 0=wn at*
   generalize e5:lv.getD n 0=ln at*
   generalize e6:comN y.nodes W n y.nodes.length=S at*
   have hS11:S<2^11:=Nat.lt_of_lt_of_le hSlt (Nat.pow_le_pow_right (by omega) (by omega))
   refine uW ?_
   refine awp_merge (fun q:Nat=>⟨[(4, .ptO 104 0 0 0 0),(5, .ptO 105 0 0 0 0),(9, .ptO 109 0 0 0 0),(10, .ptO 110 0 0 0 0),(13,I n),(14,B (arnd x sl wn ln))],(109,some (0, .box [.slO 301 0 0 y.nodes.length, .slO 302 0 0 y.nodes.length]))::(301,some (0, .own 3 1 (ints lv)))::(302,some (0, .own 3 1 (ints en)))::(110,some (0, .box [IS W]))::(105,some (0, .box [RS p.slots,RS p.bins]))::(104,some (0, .box [.ptI (plB y ord)]))::(108,some (0, .box [.sl [] false, .sl [] false]))::[],q⟩) (fun _=>True) ?_ ?_
   ·unfold arnd
    by_cases a1:x.kd=5
    ·have d1:decide (x.kd=5)=true:=decide_eq_true a1
     have hl0:0<sl.length:=by have:=hst (by rw[isStrip,a1];rfl);omega
     by_cases a2:0<=wn
     ·have d2:decide (0<=wn)=true:=decide_eq_true a2
      by_cases a3:ln<0
      ·have d3:decide (ln<0)=true:=decide_eq_true a3
       refine uR1 (uI (nds_getD hnl) (uI @e2 (uI @d1 (uI (ints_getD hnw) (uI @e4 (uI @d2 (uI (ints_getD hnv) (uI @e5 (uI @hl1 (uI @d3 (uI (rows_getD hns) (uI @e3 (uI (ints_getD hl0) @Int.toNat_zero))))))))))))) ?_;intro K hK
       refine uH ?_
       refine hK _ ?_;clear hK K
       refine⟨_,trivial, .of (Nat.le_refl _) uHF (uWF1 (uI @d1 (uI @d2 (uI @d3 @Bool.true_and))))⟩
      ·have d3:decide (ln<0)=false:=decide_eq_false a3
       refine uR1 (uI (nds_getD hnl) (uI @e2 (uI @d1 (uI (ints_getD hnw) (uI @e4 (uI @d2 (uI (ints_getD hnv) (uI @e5 (uI @hl1 @d3))))))))) ?_;intro K hK
       refine uH ?_
       refine hK _ ?_;clear hK K
       refine⟨_,trivial, .of (Nat.le_refl _) uHF (uWF1 (uI @d1 (uI @d2 (uI @d3 (uI @Bool.true_and @Bool.false_and)))))⟩
     ·have d2:decide (0<=wn)=false:=decide_eq_false a2
      refine uR1 (uI (nds_getD hnl) (uI @e2 (uI @d1 (uI (ints_getD hnw) (uI @e4 @d2))))) ?_;intro K hK
      refine uH ?_
      refine hK _ ?_;clear hK K
      refine⟨_,trivial, .of (Nat.le_refl _) uHF (uWF1 (uI @d1 (uI @d2 (uI @Bool.true_and @Bool.false_and))))⟩
    ·have d1:decide (x.kd=5)=false:=decide_eq_false a1
     refine uR1 (uI (nds_getD hnl) (uI @e2 @d1)) ?_;intro K hK
     refine uH ?_
     refine hK _ ?_;clear hK K
     refine⟨_,trivial, .of (Nat.le_refl _) uHF (uWF1 (uI @d1 @Bool.false_and))⟩
   ·intro ck _
    generalize arnd x sl wn ln=ar at*
    generalize e7:(if ar=true then lv.set n 0 else lv)=lv1 at*
    have hl3:lv1.length=y.nodes.length:=by rw[<-e7];split<;>simp[hl1]
    refine awp_seq ?_
    refine awp_merge (fun q:Nat=>⟨[(4, .ptO 104 0 0 0 0),(5, .ptO 105 0 0 0 0),(9, .ptO 109 0 0 0 0),(10, .ptO 110 0 0 0 0),(13,I n),(14,B ar)],(109,some (0, .box [.slO 301 0 0 y.nodes.length, .slO 302 0 0 y.nodes.length]))::(301,some (0, .own 3 1 (ints lv1)))::(302,some (0, .own 3 1 (ints en)))::(110,some (0, .box [IS W]))::(105,some (0, .box [RS p.slots,RS p.bins]))::(104,some (0, .box [.ptI (plB y ord)]))::(108,some (0, .box [.sl [] false, .sl [] false]))::[],q⟩) (fun _=>True) ?_ ?_
    ·cases ar with
     |true=>
      rw[if_pos rfl] at e7
      repeat first|refine uC ?_|refine uA1 @hl1 ?_
      refine⟨_,trivial, .of (Nat.le_refl _) (uHF1 @e7) uWF⟩
     |false=>
      rw[if_neg (by simp)] at e7
      repeat first|refine uC ?_|refine uA ?_
      refine uW ?_
      refine⟨_,trivial, .of (Nat.le_refl _) (uHF1 @e7) uWF⟩
    ·intro ck _
     refine uR ?_;intro K hK
     refine callF uTS (hcom) uTS uTS uTS ?_;refine uS ?_
     refine hK _ ?_;clear hK K
     cases c1:isStrip x.kd with
     |false=>
      rw[if_pos c1] at e1
      refine uR1 (uI (nds_getD hnl) @e2) ?_;intro K hK
      refine uH ?_
      refine callF uTS ((fstrip_sat x.kd)) uTS uTS uTS ?_;refine uS ?_
      first|refine uS1 @c1 ?_|exact uX1 @c1
      refine hK _ ?_;clear hK K
      refine uT ?_
      refine uW ?_
      refine awp_loopW (fun q:Nat×Nat×List Int×Nat=>⟨[(4, .ptO 104 0 0 0 0),(5, .ptO 105 0 0 0 0),(9, .ptO 109 0 0 0 0),(10, .ptO 110 0 0 0 0),(13,I n),(15,U q.2.1)],(109,some (0, .box [.slO 301 0 0 y.nodes.length, .slO 302 0 0 y.nodes.length]))::(301,some (0, .own 3 1 (ints q.2.2.1)))::(302,some (0, .own 3 1 (ints en)))::(110,some (0, .box [IS W]))::(105,some (0, .box [RS p.slots,RS p.bins]))::(104,some (0, .box [.ptI (plB y ord)]))::(108,some (0, .box [.sl [] false, .sl [] false]))::[],q.1⟩)
       (fun q=>q.2.1<2^y.nodes.length/\q.2.1<=q.2.2.2/\tzR W q.2.2.2 q.2.1 q.2.2.1=tzR W S S lv1/\q.2.2.1.length=y.nodes.length) (fun q=>q.2.1) (_,S,lv1,S) ⟨hSlt,Nat.le_refl _,rfl,hl3⟩ (uKF) ?_
      rintro⟨ck,S',lv',f⟩ ⟨g1,g2,g3,g4⟩
      simp only at g1 g2 g3 g4
      have hS':S'<2^11:=Nat.lt_of_lt_of_le g1 (Nat.pow_le_pow_right (by omega) (by omega))
      repeat refine uA ?_
      refine uW ?_;refine condP _ rfl (fun h=>?_) (fun h=>?_)
      ·have h0:S'≠0:=by omega
       have hm:=tz_lt (f:=11) h0 g1 hN
       have htz:=tz_sat S' hS' h0
       obtain⟨f',rfl⟩:∃f',f=f'+1:=⟨f - 1,by omega⟩
       rw[tzR,if_neg h0] at g3
       generalize tz 11 S'=m at*
       have hmw:m<W.length:=by omega
       have hml:m<lv'.length:=by omega
       have hsub:IntKind.u64.wrap ((S':Int) - 1)=((S' - 1:Nat):Int):=by
        have:=u64_nat (a:=S' - 1) (by omega)
        rw[<-this];congr 1;omega
       have hand:=u64_and (a:=S') (b:=S' - 1) (by omega) (by omega)
       refine uR ?_;intro K hK
       refine callF uTS (htz) uTS uTS uTS ?_;refine uS ?_
       refine hK _ ?_;clear hK K
       refine uD1 (uI (ints_getD hmw) (uI (ints_getD hml) @g4)) ?_;intro K hK
       refine uH ?_
       refine hK _ ?_;clear hK K
       repeat refine uA1 (uI @hsub @hand) ?_
       have hle:S' &&& (S' - 1)<=S' - 1:=Nat.and_le_right
       refine⟨(_,S' &&& (S' - 1),lv'.set m (W.getD m 0),f'),⟨by simp only;omega,by simp only;omega,g3,by simp only[List.length_set];exact g4⟩,by simp only;omega,uKF⟩
      ·refine awp_exit ?_
       have h0:S'=0:=by omega
       subst h0
       have e8:lv'=tzR W S S lv1:=by
        rw[<-g3]
        cases f with
        |zero=>rfl
        |succ f=>rw[tzR,if_pos rfl]
       rw[<-e8] at e1
       refine qrnd_of [(109,0,109,0),(301,0,301,0),(302,0,302,0),(110,0,110,0),(105,0,105,0),(104,0,104,0),(108,0,108,0)] ?_ ?_ ?_ ?_ ?_ ?_;(iterate 5 (focus (first|exact trivial|rfl|exact fun _ _=>rfl|(simp only[go_sem,Nat.reduceAdd,Nat.reduceSub,Nat.reduceMul,Nat.reduceLT,Nat.reduceEqDiff,Nat.reduceBEq,Nat.reduceLeDiff,Int.reduceToNat,↓reduceIte,Int.reduceEq,Int.reduceLT,Int.reduceLE,Int.reduceAdd,Int.reduceSub,Int.reduceNeg,reduceCtorEq,rnHP,rnHR,rnOP,rnOR,rnH,rnO,List.map_cons,List.map_nil,List.mem_cons,List.not_mem_nil,forall_eq_or_imp,forall_eq,and_true,List.append_nil,List.append_assoc,e1]<;>first|trivial|rfl|(simp;done)|omega)|(simp;done))));(simp only[go_sem,Nat.reduceAdd,Nat.reduceSub,Nat.reduceMul,Nat.reduceLT,Nat.reduceEqDiff,Nat.reduceBEq,Nat.reduceLeDiff,Int.reduceToNat,↓reduceIte,Int.reduceEq,Int.reduceLT,Int.reduceLE,Int.reduceAdd,Int.reduceSub,Int.reduceNeg,reduceCtorEq,rnHP,rnHR,rnOP,rnOR,rnH,rnO,List.map_cons,List.map_nil,List.mem_cons,List.not_mem_nil,forall_eq_or_imp,forall_eq,and_true,List.append_nil,List.append_assoc,e1])
     |true=>
      rw[if_neg (by simp[c1])] at e1
      refine uR1 (uI (nds_getD hnl) @e2) ?_;intro K hK
      refine uH ?_
      refine callF uTS ((fstrip_sat x.kd)) uTS uTS uTS ?_;refine uS ?_
      first|refine uS1 @c1 ?_|exact uX1 @c1
      refine hK _ ?_;clear hK K
      refine uF ?_
      by_cases s1:S=0
      ·have d1:decide (¬(S:Int)=0)=false:=decide_eq_false (by omega)
       rw[if_neg (fun h=>h.1 s1)] at e1
       refine uR1 @d1 ?_;intro K hK
       refine uH ?_
       refine hK _ ?_;clear hK K
       refine uF ?_
       refine uW ?_
       refine qrnd_of [(109,0,109,0),(301,0,301,0),(302,0,302,0),(110,0,110,0),(105,0,105,0),(104,0,104,0),(108,0,108,0)] ?_ ?_ ?_ ?_ ?_ ?_;(iterate 5 (focus (first|exact trivial|rfl|exact fun _ _=>rfl|(simp only[go_sem,Nat.reduceAdd,Nat.reduceSub,Nat.reduceMul,Nat.reduceLT,Nat.reduceEqDiff,Nat.reduceBEq,Nat.reduceLeDiff,Int.reduceToNat,↓reduceIte,Int.reduceEq,Int.reduceLT,Int.reduceLE,Int.reduceAdd,Int.reduceSub,Int.reduceNeg,reduceCtorEq,rnHP,rnHR,rnOP,rnOR,rnH,rnO,List.map_cons,List.map_nil,List.mem_cons,List.not_mem_nil,forall_eq_or_imp,forall_eq,and_true,List.append_nil,List.append_assoc,e1]<;>first|trivial|rfl|(simp;done)|omega)|(simp;done))));(simp only[go_sem,Nat.reduceAdd,Nat.reduceSub,Nat.reduceMul,Nat.reduceLT,Nat.reduceEqDiff,Nat.reduceBEq,Nat.reduceLeDiff,Int.reduceToNat,↓reduceIte,Int.reduceEq,Int.reduceLT,Int.reduceLE,Int.reduceAdd,Int.reduceSub,Int.reduceNeg,reduceCtorEq,rnHP,rnHR,rnOP,rnOR,rnH,rnO,List.map_cons,List.map_nil,List.mem_cons,List.not_mem_nil,forall_eq_or_imp,forall_eq,and_true,List.append_nil,List.append_assoc,e1])
      ·have d1:decide (¬(S:Int)=0)=true:=decide_eq_true (by omega)
       cases s2:openR x sl with
       |false=>
        rw[if_neg (fun h=>by rw[s2] at h;cases h.2.1)] at e1
        rw[s2] at hopen
        refine uR1 @d1 ?_;intro K hK
        refine uH ?_
        refine callF uTS (hopen) uTS uTS uTS ?_;refine uS ?_
        refine uH ?_
        refine hK _ ?_;clear hK K
        refine uF ?_
        refine uW ?_
        refine qrnd_of [(109,0,109,0),(301,0,301,0),(302,0,302,0),(110,0,110,0),(105,0,105,0),(104,0,104,0),(108,0,108,0)] ?_ ?_ ?_ ?_ ?_ ?_;(iterate 5 (focus (first|exact trivial|rfl|exact fun _ _=>rfl|(simp only[go_sem,Nat.reduceAdd,Nat.reduceSub,Nat.reduceMul,Nat.reduceLT,Nat.reduceEqDiff,Nat.reduceBEq,Nat.reduceLeDiff,Int.reduceToNat,↓reduceIte,Int.reduceEq,Int.reduceLT,Int.reduceLE,Int.reduceAdd,Int.reduceSub,Int.reduceNeg,reduceCtorEq,rnHP,rnHR,rnOP,rnOR,rnH,rnO,List.map_cons,List.map_nil,List.mem_cons,List.not_mem_nil,forall_eq_or_imp,forall_eq,and_true,List.append_nil,List.append_assoc,e1]<;>first|trivial|rfl|(simp;done)|omega)|(simp;done))));(simp only[go_sem,Nat.reduceAdd,Nat.reduceSub,Nat.reduceMul,Nat.reduceLT,Nat.reduceEqDiff,Nat.reduceBEq,Nat.reduceLeDiff,Int.reduceToNat,↓reduceIte,Int.reduceEq,Int.reduceLT,Int.reduceLE,Int.reduceAdd,Int.reduceSub,Int.reduceNeg,reduceCtorEq,rnHP,rnHR,rnOP,rnOR,rnH,rnO,List.map_cons,List.map_nil,List.mem_cons,List.not_mem_nil,forall_eq_or_imp,forall_eq,and_true,List.append_nil,List.append_assoc,e1])
       |true=>
        rw[s2] at hopen
        cases ar with
        |true=>
         rw[if_neg (fun h=>by cases h.2.2)] at e1
         refine uR1 @d1 ?_;intro K hK
         refine uH ?_
         refine callF uTS (hopen) uTS uTS uTS ?_;refine uS ?_
         refine uH ?_
         refine hK _ ?_;clear hK K
         refine uF ?_
         refine uW ?_
         refine qrnd_of [(109,0,109,0),(301,0,301,0),(302,0,302,0),(110,0,110,0),(105,0,105,0),(104,0,104,0),(108,0,108,0)] ?_ ?_ ?_ ?_ ?_ ?_;(iterate 5 (focus (first|exact trivial|rfl|exact fun _ _=>rfl|(simp only[go_sem,Nat.reduceAdd,Nat.reduceSub,Nat.reduceMul,Nat.reduceLT,Nat.reduceEqDiff,Nat.reduceBEq,Nat.reduceLeDiff,Int.reduceToNat,↓reduceIte,Int.reduceEq,Int.reduceLT,Int.reduceLE,Int.reduceAdd,Int.reduceSub,Int.reduceNeg,reduceCtorEq,rnHP,rnHR,rnOP,rnOR,rnH,rnO,List.map_cons,List.map_nil,List.mem_cons,List.not_mem_nil,forall_eq_or_imp,forall_eq,and_true,List.append_nil,List.append_assoc,e1]<;>first|trivial|rfl|(simp;done)|omega)|(simp;done))));(simp only[go_sem,Nat.reduceAdd,Nat.reduceSub,Nat.reduceMul,Nat.reduceLT,Nat.reduceEqDiff,Nat.reduceBEq,Nat.reduceLeDiff,Int.reduceToNat,↓reduceIte,Int.reduceEq,Int.reduceLT,Int.reduceLE,Int.reduceAdd,Int.reduceSub,Int.reduceNeg,reduceCtorEq,rnHP,rnHR,rnOP,rnOR,rnH,rnO,List.map_cons,List.map_nil,List.mem_cons,List.not_mem_nil,forall_eq_or_imp,forall_eq,and_true,List.append_nil,List.append_assoc,e1])
        |false=>
         rw[if_pos ⟨s1,s2,rfl⟩] at e1
         have hm:=tz_lt (f:=11) s1 hSlt hN
         have htz:=tz_sat S hS11 s1
         generalize tz 11 S=m at*
         have hmw:m<W.length:=by omega
         have hml:m<lv1.length:=by omega
         refine uR1 @d1 ?_;intro K hK
         refine uH ?_
         refine callF uTS (hopen) uTS uTS uTS ?_;refine uS ?_
         refine uH ?_
         refine hK _ ?_;clear hK K
         refine uT ?_
         refine uR ?_;intro K hK
         refine callF uTS (htz) uTS uTS uTS ?_;refine uS ?_
         refine hK _ ?_;clear hK K
         refine uD1 (uI (ints_getD hmw) (uI (ints_getD hml) (uI @hl3 @hl2))) ?_;intro K hK
         refine uH ?_
         refine hK _ ?_;clear hK K
         refine uW ?_
         refine qrnd_of [(109,0,109,0),(301,0,301,0),(302,0,302,0),(110,0,110,0),(105,0,105,0),(104,0,104,0),(108,0,108,0)] ?_ ?_ ?_ ?_ ?_ ?_;(iterate 5 (focus (first|exact trivial|rfl|exact fun _ _=>rfl|(simp only[go_sem,Nat.reduceAdd,Nat.reduceSub,Nat.reduceMul,Nat.reduceLT,Nat.reduceEqDiff,Nat.reduceBEq,Nat.reduceLeDiff,Int.reduceToNat,↓reduceIte,Int.reduceEq,Int.reduceLT,Int.reduceLE,Int.reduceAdd,Int.reduceSub,Int.reduceNeg,reduceCtorEq,rnHP,rnHR,rnOP,rnOR,rnH,rnO,List.map_cons,List.map_nil,List.mem_cons,List.not_mem_nil,forall_eq_or_imp,forall_eq,and_true,List.append_nil,List.append_assoc,e1]<;>first|trivial|rfl|(simp;done)|omega)|(simp;done))));(simp only[go_sem,Nat.reduceAdd,Nat.reduceSub,Nat.reduceMul,Nat.reduceLT,Nat.reduceEqDiff,Nat.reduceBEq,Nat.reduceLeDiff,Int.reduceToNat,↓reduceIte,Int.reduceEq,Int.reduceLT,Int.reduceLE,Int.reduceAdd,Int.reduceSub,Int.reduceNeg,reduceCtorEq,rnHP,rnHR,rnOP,rnOR,rnH,rnO,List.map_cons,List.map_nil,List.mem_cons,List.not_mem_nil,forall_eq_or_imp,forall_eq,and_true,List.append_nil,List.append_assoc,e1])
  ·clear hX hC
   intro w e df X hC
   have hfl:=flF_len (xs:=y.nodes) (p:=p) (W:=W) (ord:=ord) ord.length
   simp only[go_sem,Nat.reduceAdd,Nat.reduceSub,Nat.reduceMul,Nat.reduceLT,Nat.reduceEqDiff,Nat.reduceBEq,Nat.reduceLeDiff,Int.reduceToNat,↓reduceIte,Int.reduceEq,Int.reduceLT,Int.reduceLE,Int.reduceAdd,Int.reduceSub,Int.reduceNeg,reduceCtorEq,rnHP,rnHR,rnOP,rnOR,rnH,rnO,List.map_cons,List.map_nil,List.mem_cons,List.not_mem_nil,forall_eq_or_imp,forall_eq,and_true,List.append_nil,List.append_assoc]
   repeat refine uA ?_
   refine awp_ret ?_;rw[show Tryz.f80.results.toList=[.cell 8 87] from rfl];first|refine uRN1 (uI @hfl.1 @hfl.2) ?_|exact uRM1 (uI @hfl.1 @hfl.2)
   rfl
theorem deep_sat (l:List (List Int)) (hl:l.length<=1000) (h3:∀i,i<l.length->(l.getD i []).length<=1000):SatG Tryz.prog tab 112 [] [RS l] [(100,some (1, .own 22 1 (krows 3 l)))] (.slO 100 1 0 l.length):=by
 refine uFN Tryz.func112 Tryz.ntmps112 ?_;intro w e X hC
 repeat refine uA ?_
 refine uW ?_
 refine awp_loopW (fun i:Nat×Nat×Nat=>⟨[(3, .slO 103 i.2.2 0 i.2.1),(6,RS l),(7,I l.length),(8,I i.2.1)],(103,some (i.2.2, .own 22 1 (krows 3 (l.take i.2.1))))::[],i.1⟩) (fun i=>i.2.1<=l.length) (fun i=>l.length - i.2.1) (_,0,_) (Nat.zero_le _) (.of (Nat.le_refl _) uHF uWF) ?_
 rintro⟨ck,i,g⟩ hi
 simp only at hi
 repeat refine uA ?_
 refine uW ?_;refine condP _ rfl (fun h=>?_) (fun h=>?_)
 ·have hlt:i<l.length:=by omega
  have e1:=take_getD (d:=[]) hlt
  have hrl:=h3 i hlt
  have htl:(l.take i).length=i:=by simp;omega
  generalize e2:l.getD i []=r at*
  generalize l.take i=o at*
  repeat refine uA1 (uI (rows_getD hlt) (uI @e2 @htl)) ?_
  refine⟨(_,i+1,g),by simp only;omega,by simp only;omega, .of (Nat.le_refl _) (uHF1 @e1) uWF⟩
 ·refine awp_exit ?_
  have hi':i=l.length:=by omega
  subst hi'
  simp only[List.take_length]
  repeat refine uA ?_
  refine awp_ret ?_;rw[show Tryz.f112.results.toList=[.tmp 2] from rfl];(refine retG [(100,1,103,g)] uRG (by simp) (by simp) (by simp) uTG uTG uTG ?_ ?_;all_goals (first|refine uSG ?_|exact uXG|skip))
theorem clone69_sat (p:Pl) (h1:p.slots.length<=1000) (h2:p.bins.length<=1000) (h3:∀i,i<p.slots.length->(p.slots.getD i []).length<=1000) (h4:∀i,i<p.bins.length->(p.bins.getD i []).length<=1000):
  SatG Tryz.prog tab 69 [] [p.av] (plH p) (plO p):=by
 refine uFN Tryz.func69 Tryz.ntmps69 ?_;intro w e X hC
 repeat refine uA ?_
 refine uD ?_;intro K hK
 refine callE [] [(105,5,100,1)] false ((deep_sat p.slots h1 h3)) uTR uTR uTE uTE uTE uTE uTE uTE uTE uTE uTE uTE uTE uTE uTE uTE uTE ?_;refine uQS ?_
 refine callE [] [(108,8,100,1)] false ((deep_sat p.bins h2 h4)) uTR uTR uTE uTE uTE uTE uTE uTE uTE uTE uTE uTE uTE uTE uTE uTE uTE ?_;refine uQS ?_
 refine uH ?_
 refine hK _ ?_;clear hK K
 refine awp_ret ?_;rw[show Tryz.f69.results.toList=[.cell 2 34] from rfl];(refine retG [(100,1,105,5),(101,1,108,8)] uRG (by simp) (by simp) (by simp) uTG uTG uTG ?_ ?_;all_goals (first|refine uSG ?_|exact uXG|skip))
theorem step1_sat (b y:Int):SatG Tryz.prog tab 84 [] [I y, .ptI [I b]] [] (B (decide (y=b))):=by
 refine uFN Tryz.func84 Tryz.ntmps84 ?_;intro w e X hC
 repeat refine uA ?_
 (refine awp_ret (ret1 uRT ?_);try rfl)
theorem step2_sat (m:T3):SatG Tryz.prog tab 87 [] [m.av] [] (B (decide (m.b=m.c))):=by
 refine uFN Tryz.func87 Tryz.ntmps87 ?_;intro w e X hC
 repeat refine uA ?_
 (refine awp_ret (ret1 uRT ?_);try rfl)
open Go.Plant
theorem eadvance_sat (y:Ly) (p:Pl) (ord:List Int) (fs:List T3) (n:Nat) (op:Bool) (hp:FitP y.nodes p) (hf:FitF y.nodes fs) (hn:n<y.nodes.length) (h0:0<(p.slots.getD n []).length):
  SatG Tryz.prog tab 82 [] [.ptI (plB y ord),p.av,I n, .sl (t3s fs) false,B op] [(100,some (1, .own 3 1 (ints (advL (p.slots.getD n []) (atF fs n (y.nodes.getD n default).ln.toNat) op).1)))]
   (.tup [.slO 100 1 0 (p.slots.getD n []).length,I (advL (p.slots.getD n []) (atF fs n (y.nodes.getD n default).ln.toNat) op).2]):=by
 have hxl:=hp.xl
 have hns:n<p.slots.length:=by rw[hp.sl];exact hn
 have hrl:=hp.row n hn
 have hln:=hp.ln n hn
 have hfl:=hf.len
 have hfo:=fun i hi=>hf.ok i hi n hn
 generalize e2:y.nodes.getD n default=x at*
 generalize e3:p.slots.getD n []=sl at*
 obtain⟨q,hq⟩:∃q:Nat,q=x.ln.toNat:=⟨_,rfl⟩
 have hqq:x.ln=(q:Int):=by omega
 rw[<-hq]
 refine uFN Tryz.func82 Tryz.ntmps82 ?_;intro w e X hC
 repeat refine uA1 (uI (nds_getD hn) (uI @e2 @hqq)) ?_
 refine uW ?_
 refine awp_loopW (fun i:Nat×Nat×Nat=>⟨[(0, .ptI (plB y ord)),(2,I n),(4,B op),(6, .ptO 106 1 0 0 0),(12, .slO 124 i.2.2 0 q),(25, .sl (t3s fs) false),(26,I fs.length),(27,I i.2.1)],(124,some (i.2.2, .own 3 1 (ints (atL fs n q i.2.1))))::(106,some (1, .box [RS p.slots,RS p.bins]))::[],i.1⟩) (fun i=>i.2.1<=fs.length) (fun i=>fs.length - i.2.1) (_,0,_) (Nat.zero_le _) (.of (Nat.le_refl _) (by repeat first|exact HOk.nil|refine uHN ?_|(refine HOk.cons ?_ ?_;(focus (simp only[go_sem,Nat.reduceAdd,Nat.reduceSub,Nat.reduceMul,Nat.reduceLT,Nat.reduceEqDiff,Nat.reduceBEq,Nat.reduceLeDiff,Int.reduceToNat,↓reduceIte,Int.reduceEq,Int.reduceLT,Int.reduceLE,Int.reduceAdd,Int.reduceSub,Int.reduceNeg,reduceCtorEq,atL,Int.toNat_natCast];done)))) (by repeat first|exact WOk.nil|refine uWN ?_|(refine WOk.cons ?_ ?_;(focus (simp only[go_sem,Nat.reduceAdd,Nat.reduceSub,Nat.reduceMul,Nat.reduceLT,Nat.reduceEqDiff,Nat.reduceBEq,Nat.reduceLeDiff,Int.reduceToNat,↓reduceIte,Int.reduceEq,Int.reduceLT,Int.reduceLE,Int.reduceAdd,Int.reduceSub,Int.reduceNeg,reduceCtorEq,Int.toNat_natCast];done))))) ?_
 rintro⟨ck,i,g⟩ hi
 simp only at hi
 have hal:=atL_length fs n q i
 have e1:atL fs n q (i+1)=atS fs n i (atL fs n q i):=rfl
 have e9:atF fs n q=atL fs n q fs.length:=rfl
 have efin:i=fs.length->atL fs n q i=atF fs n q:=fun h=>by subst h;rfl
 generalize atL fs n q i=o at*
 repeat refine uA ?_
 refine uW ?_;refine condP _ rfl (fun h=>?_) (fun h=>?_)
 ·have hlt:i<fs.length:=by omega
  have hfi:=hfo i hlt
  unfold atS at e1
  generalize e5:fs.getD i default=f at*
  refine uA1 (uI (t3s_getD hlt) @e5) ?_
  by_cases c1:f.b=n
  ·have d1:decide (f.b=(n:Int))=true:=decide_eq_true c1
   obtain⟨c2,c3⟩:=hfi c1
   rw[if_pos c1] at e1
   obtain⟨k,hk⟩:∃k:Nat,k=f.c.toNat:=⟨_,rfl⟩
   have hkk:f.c=(k:Int):=by omega
   rw[<-hk] at e1
   have hkl:k<o.length:=by omega
   repeat first|refine uC ?_|refine uA1 (uI @d1 (uI @hkk @hal)) ?_
   refine⟨(_,i+1,g),by simp only;omega,by simp only;omega, .of (Nat.le_refl _) (uHF1 @e1) uWF⟩
  ·have d1:decide (f.b=(n:Int))=false:=decide_eq_false c1
   rw[if_neg c1] at e1
   repeat first|refine uC ?_|refine uA1 @d1 ?_
   refine⟨(_,i+1,g),by simp only;omega,by simp only;omega, .of (Nat.le_refl _) (uHF1 @e1) uWF⟩
 ·refine awp_exit ?_
  have e6:=efin (by omega)
  subst e6
  refine uR1 (uI (rows_getD hns) @e3) ?_;intro K hK
  refine⟨by omega,?_⟩
  refine callE [] [(149,ck+8,100,1)] true ((sadvance_sat sl (atF fs n q) op h0 (by omega) (by omega))) uTR uTR uTE uTE uTE uTE uTE uTE uTE uTE uTE uTE uTE uTE uTE uTE uTE ?_;refine uQS ?_
  refine hK _ ?_;clear hK K
  refine awp_ret ?_;rw[show Tryz.f82.results.toList=[.tmp 10, .tmp 11] from rfl];(refine retG [(100,1,149,ck+8)] uRG (by simp) (by simp) (by simp) uTG uTG uTG ?_ ?_;all_goals (first|refine uSG ?_|exact uXG|skip))
theorem idxR_cases {α:Type} (p:α->Bool) (l:List α) (d:α):(idxR p l=-1/\l.filter (fun y=>!p y)=l)\/
  ∃i:Nat,idxR p l=i/\i<l.length/\(l.take (i+1)).filter (fun y=>!p y)=l.take i:=by
 unfold idxR
 cases h:l.findIdx? p with
 |none=>
  refine .inl ⟨rfl,?_⟩
  rw[List.findIdx?_eq_none_iff] at h
  rw[List.filter_eq_self]
  intro a ha
  simp[h a ha]
 |some i=>
  rw[List.findIdx?_eq_some_iff_getElem] at h
  obtain⟨hi,h1,h2⟩:=h
  refine .inr ⟨i,rfl,hi,?_⟩
  rw[List.take_add_one,List.filter_append,List.getElem?_eq_getElem hi]
  simp only[Option.toList_some,List.filter_cons,h1,Bool.not_true,Bool.false_eq_true,if_false,List.filter_nil,List.append_nil]
  rw[List.filter_eq_self]
  intro a ha
  obtain⟨j,hj,rfl⟩:=List.getElem_of_mem ha
  simp only[List.length_take] at hj
  have:=h2 j (by omega)
  simpa using this
theorem filter_take1 {α:Type} {q:α->Bool} {l:List α} {j:Nat} {d:α} (h:j<l.length):(l.take (j+1)).filter q=(l.take j).filter q++if q (l.getD j d)=true then[l.getD j d] else[]:=by
 rw[List.take_add_one,List.filter_append,List.getElem?_eq_getElem h]
 have:l.getD j d=l[j]:=by simp[h]
 rw[this]
 simp only[Option.toList_some,List.filter_cons,List.filter_nil]
theorem set_take1 {α:Type} {o:List α} {i:Nat} {x:α} (h:i<o.length):(o.set i x).take (i+1)=o.take i++[x]:=by
 rw[List.take_add_one,List.take_set_of_le (Nat.le_refl _)]
 simp[h]
theorem getD_set_ne' {α:Type} {o:List α} {i k:Nat} {x d:α} (h:i≠k):(o.set i x).getD k d=o.getD k d:=by
 simp only[List.getD_eq_getElem?_getD]
 rw[List.getElem?_set_ne h]
theorem delI_sat (l:List Int) (k:Nat) (cs:List AV) (p:Int->Bool) (hl:l.length<=1000) (hk:∀y∈l,SatG Tryz.prog tab k [] [I y, .ptI cs] [] (B (p y))):
  SatG Tryz.prog tab 83 [(0,some (0, .own 3 1 (ints l)))] [.slO 0 0 0 l.length, .fn k [.ptI cs]] [(100,some (1, .own 3 1 (ints (l.filter fun y=>!p y))))] (.slO 100 1 0 (l.filter fun y=>!p y).length):=by
 refine uFN Tryz.func83 Tryz.ntmps83 ?_;intro w e X hC
 refine uA ?_
 refine uR ?_;intro K hK
 refine callF (rc:=I (idxR p l)) ?_ ?_ ?_ ?_ ?_ ?_;(focus (first|exact trivial|(simp only[go_sem,Nat.reduceAdd,Nat.reduceSub,Nat.reduceMul,Nat.reduceLT,Nat.reduceEqDiff,Nat.reduceBEq,Nat.reduceLeDiff,Int.reduceToNat,↓reduceIte,Int.reduceEq,Int.reduceLT,Int.reduceLE,Int.reduceAdd,Int.reduceSub,Int.reduceNeg,reduceCtorEq,]<;>trivial)));(focus (simp only[go_sem,Nat.reduceAdd,Nat.reduceSub,Nat.reduceMul,Nat.reduceLT,Nat.reduceEqDiff,Nat.reduceBEq,Nat.reduceLeDiff,Int.reduceToNat,↓reduceIte,Int.reduceEq,Int.reduceLT,Int.reduceLE,Int.reduceAdd,Int.reduceSub,Int.reduceNeg,reduceCtorEq,];exact(ixfI_sat l k cs p hl hk)));(focus (first|exact trivial|(simp only[go_sem,Nat.reduceAdd,Nat.reduceSub,Nat.reduceMul,Nat.reduceLT,Nat.reduceEqDiff,Nat.reduceBEq,Nat.reduceLeDiff,Int.reduceToNat,↓reduceIte,Int.reduceEq,Int.reduceLT,Int.reduceLE,Int.reduceAdd,Int.reduceSub,Int.reduceNeg,reduceCtorEq,]<;>trivial)));(focus (first|exact trivial|(simp only[go_sem,Nat.reduceAdd,Nat.reduceSub,Nat.reduceMul,Nat.reduceLT,Nat.reduceEqDiff,Nat.reduceBEq,Nat.reduceLeDiff,Int.reduceToNat,↓reduceIte,Int.reduceEq,Int.reduceLT,Int.reduceLE,Int.reduceAdd,Int.reduceSub,Int.reduceNeg,reduceCtorEq,]<;>trivial)));(focus (first|exact trivial|(simp only[go_sem,Nat.reduceAdd,Nat.reduceSub,Nat.reduceMul,Nat.reduceLT,Nat.reduceEqDiff,Nat.reduceBEq,Nat.reduceLeDiff,Int.reduceToNat,↓reduceIte,Int.reduceEq,Int.reduceLT,Int.reduceLE,Int.reduceAdd,Int.reduceSub,Int.reduceNeg,reduceCtorEq,]<;>trivial)));first|refine uS ?_|exact uX
 refine hK _ ?_;clear hK K
 rcases idxR_cases p l 0 with ⟨e1,e2⟩|⟨i0,e1,h1,e2⟩
 ·rw[e1,e2]
  repeat first|refine uC ?_|refine uA ?_
  refine awp_ret ?_;rw[show Tryz.f83.results.toList=[.tmp 4] from rfl];(refine retG [(100,1,0,0)] uRG (by simp) (by simp) (by simp) uTG uTG uTG ?_ ?_;all_goals (first|refine uSG ?_|exact uXG|skip))
 rw[e1]
 repeat first|refine uC ?_|refine uA ?_
 refine uW ?_
 refine awp_loopW (fun i:Nat×Nat×Nat×List Int=>⟨[(0, .slO 0 0 0 l.length),(1, .fn k [.ptI cs]),(5,I i.2.2.1),(6,I i.2.1)],(0,some (0, .own 3 1 (ints i.2.2.2)))::[],i.1⟩) (fun i=>i.2.1<=l.length/\i.2.2.1<i.2.1/\i.2.2.2.length=l.length/\i.2.2.2.take i.2.2.1=(l.take i.2.1).filter (fun y=>!p y)/\∀k,i.2.1<=k->i.2.2.2.getD k 0=l.getD k 0) (fun i=>l.length - i.2.1) (_,i0+1,i0,l) ⟨by simp only;omega,by simp only;omega,rfl,e2.symm,fun _ _=>rfl⟩ (uKF) ?_
 rintro⟨ck,j,i,o⟩ ⟨hi,hij,hol,he,ho⟩
 simp only at hi hij hol he ho
 repeat refine uA ?_
 refine uW ?_;refine condP _ rfl (fun h=>?_) (fun h=>?_)
 ·have hlt:j<l.length:=by omega
  have e3:=filter_take1 (q:=fun y=>!p y) (d:=0) hlt
  have hj:=ho j (Nat.le_refl _)
  have hsat:=hk (l.getD j 0) (mem_getD hlt)
  generalize e4:l.getD j 0=x at*
  have hjo:j<o.length:=by omega
  cases c1:p x with
  |true=>
   rw[c1] at hsat
   simp only[c1,Bool.not_true,Bool.false_eq_true,if_false,List.append_nil] at e3
   repeat first|refine uC ?_|refine uA1 (uI (ints_getD hjo) (uI @hj @hol)) ?_
   refine uR ?_;intro K hK
   refine callF uTS (hsat) uTS uTS uTS ?_;refine uS ?_
   refine hK _ ?_;clear hK K
   refine uF ?_
   repeat refine uA ?_
   refine⟨(_,j+1,i,o),⟨by simp only;omega,by simp only;omega,hol,by simp only[e3];exact he,fun k h=>ho k (by simp only at h;omega)⟩,by simp only;omega,uKF⟩
  |false=>
   rw[c1] at hsat
   simp only[c1,Bool.not_false,if_true] at e3
   repeat first|refine uC ?_|refine uA1 (uI (ints_getD hjo) (uI @hj @hol)) ?_
   refine uR ?_;intro K hK
   refine callF uTS (hsat) uTS uTS uTS ?_;refine uS ?_
   refine hK _ ?_;clear hK K
   refine uT ?_
   repeat refine uA1 @hol ?_
   refine⟨(_,j+1,i+1,o.set i x),⟨by simp only;omega,by simp only;omega,by simp only[List.length_set];exact hol,by simp only;rw[e3,set_take1 (by omega),he],fun k h=>by simp only at h ⊢;rw[getD_set_ne' (by omega)];exact ho k (by omega)⟩,by simp only;omega,uKF⟩
 ·refine awp_exit ?_
  have e5:o.take i=l.filter (fun y=>!p y):=by rw[he,List.take_of_length_le (by omega)]
  have e6:(l.filter (fun y=>!p y)).length=i:=by rw[<-e5,List.length_take];omega
  have e7:(o.take i).length+(l.length - i)=l.length:=by rw[List.length_take];omega
  have e8:(o.take i).take i=o.take i:=by rw[List.take_take,Nat.min_self]
  have e9:(o.take i++List.replicate (l.length - i) 0).take i=l.filter (fun y=>!p y):=by
   rw[List.take_append_of_le_length (by rw[List.length_take];omega),e8,e5]
  repeat refine uA1 (uI @ints_take @e7) ?_
  rw[ints_append,ints_take,e9]
  rw[e6]
  refine awp_ret ?_;rw[show Tryz.f83.results.toList=[.tmp 4] from rfl];(refine retG [(100,1,0,ck+10)] uRG (by simp) (by simp) (by simp) uTG uTG uTG ?_ ?_;all_goals (first|refine uSG ?_|exact uXG|skip))
theorem delP_sat (l:List T3) (k:Nat) (p:T3->Bool) (hl:l.length<=1000) (hk:∀y∈l,SatG Tryz.prog tab k [] [y.av] [] (B (p y))):
  SatG Tryz.prog tab 86 [(0,some (0, .own 44 3 (t3s l)))] [.slO 0 0 0 l.length, .fn k []] [(100,some (1, .own 44 3 (t3s (l.filter fun y=>!p y))))] (.slO 100 1 0 (l.filter fun y=>!p y).length):=by
 refine uFN Tryz.func86 Tryz.ntmps86 ?_;intro w e X hC
 refine uA ?_
 refine uR ?_;intro K hK
 refine callF (rc:=I (idxR p l)) ?_ ?_ ?_ ?_ ?_ ?_;(focus (first|exact trivial|(simp only[go_sem,Nat.reduceAdd,Nat.reduceSub,Nat.reduceMul,Nat.reduceLT,Nat.reduceEqDiff,Nat.reduceBEq,Nat.reduceLeDiff,Int.reduceToNat,↓reduceIte,Int.reduceEq,Int.reduceLT,Int.reduceLE,Int.reduceAdd,Int.reduceSub,Int.reduceNeg,reduceCtorEq,]<;>trivial)));(focus (simp only[go_sem,Nat.reduceAdd,Nat.reduceSub,Nat.reduceMul,Nat.reduceLT,Nat.reduceEqDiff,Nat.reduceBEq,Nat.reduceLeDiff,Int.reduceToNat,↓reduceIte,Int.reduceEq,Int.reduceLT,Int.reduceLE,Int.reduceAdd,Int.reduceSub,Int.reduceNeg,reduceCtorEq,];exact(ixfP_sat l k p hl hk)));(focus (first|exact trivial|(simp only[go_sem,Nat.reduceAdd,Nat.reduceSub,Nat.reduceMul,Nat.reduceLT,Nat.reduceEqDiff,Nat.reduceBEq,Nat.reduceLeDiff,Int.reduceToNat,↓reduceIte,Int.reduceEq,Int.reduceLT,Int.reduceLE,Int.reduceAdd,Int.reduceSub,Int.reduceNeg,reduceCtorEq,]<;>trivial)));(focus (first|exact trivial|(simp only[go_sem,Nat.reduceAdd,Nat.reduceSub,Nat.reduceMul,Nat.reduceLT,Nat.reduceEqDiff,Nat.reduceBEq,Nat.reduceLeDiff,Int.reduceToNat,↓reduceIte,Int.reduceEq,Int.reduceLT,Int.reduceLE,Int.reduceAdd,Int.reduceSub,Int.reduceNeg,reduceCtorEq,]<;>trivial)));(focus (first|exact trivial|(simp only[go_sem,Nat.reduceAdd,Nat.reduceSub,Nat.reduceMul,Nat.reduceLT,Nat.reduceEqDiff,Nat.reduceBEq,Nat.reduceLeDiff,Int.reduceToNat,↓reduceIte,Int.reduceEq,Int.reduceLT,Int.reduceLE,Int.reduceAdd,Int.reduceSub,Int.reduceNeg,reduceCtorEq,]<;>trivial)));first|refine uS ?_|exact uX
 refine hK _ ?_;clear hK K
 rcases idxR_cases p l default with ⟨e1,e2⟩|⟨i0,e1,h1,e2⟩
 ·rw[e1,e2]
  repeat first|refine uC ?_|refine uA ?_
  refine awp_ret ?_;rw[show Tryz.f86.results.toList=[.tmp 4] from rfl];(refine retG [(100,1,0,0)] uRG (by simp) (by simp) (by simp) uTG uTG uTG ?_ ?_;all_goals (first|refine uSG ?_|exact uXG|skip))
 rw[e1]
 repeat first|refine uC ?_|refine uA ?_
 refine uW ?_
 refine awp_loopW (fun i:Nat×Nat×Nat×List T3=>⟨[(0, .slO 0 0 0 l.length),(1, .fn k []),(5,I i.2.2.1),(6,I i.2.1)],(0,some (0, .own 44 3 (t3s i.2.2.2)))::[],i.1⟩) (fun i=>i.2.1<=l.length/\i.2.2.1<i.2.1/\i.2.2.2.length=l.length/\i.2.2.2.take i.2.2.1=(l.take i.2.1).filter (fun y=>!p y)/\∀k,i.2.1<=k->i.2.2.2.getD k default=l.getD k default) (fun i=>l.length - i.2.1) (_,i0+1,i0,l) ⟨by simp only;omega,by simp only;omega,rfl,e2.symm,fun _ _=>rfl⟩ (uKF) ?_
 rintro⟨ck,j,i,o⟩ ⟨hi,hij,hol,he,ho⟩
 simp only at hi hij hol he ho
 repeat refine uA ?_
 refine uW ?_;refine condP _ rfl (fun h=>?_) (fun h=>?_)
 ·have hlt:j<l.length:=by omega
  have e3:=filter_take1 (q:=fun y=>!p y) (d:=default) hlt
  have hj:=ho j (Nat.le_refl _)
  have hsat:=hk (l.getD j default) (mem_getD hlt)
  generalize e4:l.getD j default=x at*
  have hjo:j<o.length:=by omega
  cases c1:p x with
  |true=>
   rw[c1] at hsat
   simp only[c1,Bool.not_true,Bool.false_eq_true,if_false,List.append_nil] at e3
   repeat first|refine uC ?_|refine uA1 (uI (t3s_getD hjo) (uI @hj @hol)) ?_
   refine uR ?_;intro K hK
   refine callF uTS (hsat) uTS uTS uTS ?_;refine uS ?_
   refine hK _ ?_;clear hK K
   refine uF ?_
   repeat refine uA ?_
   refine⟨(_,j+1,i,o),⟨by simp only;omega,by simp only;omega,hol,by simp only[e3];exact he,fun k h=>ho k (by simp only at h;omega)⟩,by simp only;omega,uKF⟩
  |false=>
   rw[c1] at hsat
   simp only[c1,Bool.not_false,if_true] at e3
   repeat first|refine uC ?_|refine uA1 (uI (t3s_getD hjo) (uI @hj @hol)) ?_
   refine uR ?_;intro K hK
   refine callF uTS (hsat) uTS uTS uTS ?_;refine uS ?_
   refine hK _ ?_;clear hK K
   refine uT ?_
   repeat refine uA1 @hol ?_
   refine⟨(_,j+1,i+1,o.set i x),⟨by simp only;omega,by simp only;omega,by simp only[List.length_set];exact hol,by simp only;rw[e3,set_take1 (by omega),he],fun k h=>by simp only at h ⊢;rw[getD_set_ne' (by omega)];exact ho k (by omega)⟩,by simp only;omega,uKF⟩
 ·refine awp_exit ?_
  have e5:o.take i=l.filter (fun y=>!p y):=by rw[he,List.take_of_length_le (by omega)]
  have e6:(l.filter (fun y=>!p y)).length=i:=by rw[<-e5,List.length_take];omega
  have e7:(o.take i).length+(l.length - i)=l.length:=by rw[List.length_take];omega
  have e8:(o.take i).take i=o.take i:=by rw[List.take_take,Nat.min_self]
  have e9:∀r:List AV,(t3s (o.take i)++r).take i=t3s (l.filter (fun y=>!p y)):=fun r=>by
   rw[List.take_append_of_le_length (by rw[t3s_length,List.length_take];omega),t3s_take,e8,e5]
  repeat refine uA1 (uI @t3s_take @e7) ?_
  rw[e9]
  rw[e6]
  refine awp_ret ?_;rw[show Tryz.f86.results.toList=[.tmp 4] from rfl];(refine retG [(100,1,0,ck+10)] uRG (by simp) (by simp) (by simp) uTG uTG uTG ?_ ?_;all_goals (first|refine uSG ?_|exact uXG|skip))
theorem nan1_sat (x:Int):SatG Tryz.prog tab 182 [] [I x] [] (B false):=by
 refine uFN Tryz.func182 Tryz.ntmps182 ?_;intro w e X hC
 repeat refine uA ?_
 (refine awp_ret (ret1 uRT ?_);try rfl)
 try simp
theorem nan2_sat (x:Int):SatG Tryz.prog tab 164 [] [I x] [] (B false):=by
 refine uFN Tryz.func164 Tryz.ntmps164 ?_;intro w e X hC
 repeat refine uA ?_
 (refine awp_ret (ret1 uRT ?_);try rfl)
 try simp
theorem less_sat (x y:Int):SatG Tryz.prog tab 151 [] [I x,I y] [] (B (decide (x<y))):=by
 refine uFN Tryz.func151 Tryz.ntmps151 ?_;intro w e X hC
 refine uA ?_
 refine uR ?_;intro K hK
 refine callF uTS ((nan1_sat x)) uTS uTS uTS ?_;refine uS ?_
 refine hK _ ?_;clear hK K
 (refine awp_ret (ret1 uRT ?_);try rfl)
theorem shr1 (s:Nat):shrK .u64 (s:Int) 1=((s / 2:Nat):Int):=by
 show(s:Int).fdiv (2^(min 1 64))=_
 rw[Int.fdiv_eq_ediv_of_nonneg _ (by decide)]
 show(s:Int) / 2=_
 omega
def cutN (l:List Int) (x:Int):Nat:=(l.takeWhile (fun y=>decide (y<x))).length
theorem cutN_le (l:List Int) (x:Int):cutN l x<=l.length:=by
 have h:(l.takeWhile (fun y=>decide (y<x))).length+(l.dropWhile (fun y=>decide (y<x))).length=l.length:=by rw[<-List.length_append,List.takeWhile_append_dropWhile]
 unfold cutN;omega
theorem cutN_of:∀{l:List Int} {x:Int} {k:Nat},k<=l.length->(∀j,j<k->l.getD j 0<x)->(∀j,k<=j->j<l.length->x<=l.getD j 0)->cutN l x=k
 |[],x,k,h,_,_=>by
  have:k=0:=by simpa using h
  subst this;rfl
 |y::l,x,0,_,_,h=>by
  have:¬y<x:=by have:=h 0 (Nat.le_refl _) (by simp);simp at this;omega
  simp[cutN,this]
 |y::l,x,k+1,h,h1,h2=>by
  have hy:y<x:=by simpa using h1 0 (by omega)
  have ih:=cutN_of (l:=l) (x:=x) (k:=k) (by simpa using h) (fun j hj=>by simpa using h1 (j+1) (by omega)) (fun j hj hl=>by simpa using h2 (j+1) (by omega) (by simpa using hl))
  simp only[cutN] at ih
  simp only[cutN,List.takeWhile_cons,hy,decide_true,if_true,List.length_cons,ih]
theorem sorted_le {l:List Int} (h:l.Pairwise (·<=·)) {i j:Nat} (hij:i<=j) (hj:j<l.length):l.getD i 0<=l.getD j 0:=by
 rcases Nat.lt_or_eq_of_le hij with h1|h1
 ·have:=List.pairwise_iff_getElem.1 h i j (by omega) hj h1
  simpa[show i<l.length by omega,hj] using this
 ·subst h1;exact Int.le_refl _
theorem search_sat (l:List Int) (x:Int) (hl:l.length<=1000) (hs:l.Pairwise (·<=·)):
  SatG Tryz.prog tab 123 [] [IS l,I x] [] (.tup [I (cutN l x),B (decide (cutN l x<l.length)&&decide (l.getD (cutN l x) 0=x))]):=by
 refine uFN Tryz.func123 Tryz.ntmps123 ?_;intro w e X hC
 repeat refine uA ?_
 refine uW ?_
 refine awp_loopW (fun i:Nat×Nat×Nat=>⟨[(0,IS l),(1,I x),(6,I l.length),(7,I i.2.1),(8,I i.2.2)],[],i.1⟩) (fun i=>i.2.1<=i.2.2/\i.2.2<=l.length/\(∀j,j<i.2.1->l.getD j 0<x)/\∀j,i.2.2<=j->j<l.length->x<=l.getD j 0) (fun i=>i.2.2 - i.2.1) (_,0,l.length) ⟨Nat.zero_le _,Nat.le_refl _,fun j hj=>absurd hj (Nat.not_lt_zero _),fun j h1 h2=>by simp only at h1;omega⟩ (uKF) ?_
 rintro⟨ck,a,b⟩ ⟨hab,hbl,h1,h2⟩
 simp only at hab hbl h1 h2
 repeat refine uA ?_
 refine uW ?_;refine condP _ rfl (fun h=>?_) (fun h=>?_)
 ·obtain⟨m,hm⟩:∃m,m=(a+b) / 2:=⟨_,rfl⟩
  have hlt:m<l.length:=by omega
  have e1:IntKind.u64.wrap ((a:Int)+b)=((a+b:Nat):Int):=by
   rw[show(a:Int)+b=((a+b:Nat):Int) by omega];exact u64_nat (by omega)
  have e2:=shr1 (a+b)
  rw[<-hm] at e2
  have e3:IntKind.i64.wrap (m:Int)=m:=by rw[IntKind.wrap_i64];omega
  refine uA1 (uI @e1 (uI @e2 @e3)) ?_
  refine uR1 (ints_getD hlt) ?_;intro K hK
  refine uH ?_
  refine callF uTS ((less_sat (l.getD m 0) x)) uTS uTS uTS ?_;refine uS ?_
  refine hK _ ?_;clear hK K
  refine uW ?_;refine condP _ rfl (fun c1=>?_) (fun c1=>?_)
  ·repeat refine uA ?_
   refine⟨(_,m+1,b),⟨by simp only;omega,by simp only;omega,fun j hj=>?_,h2⟩,by simp only;omega,uKF⟩
   have:=sorted_le hs (show j<=m by simp only at hj;omega) hlt
   omega
  ·repeat refine uA ?_
   refine⟨(_,a,m),⟨by simp only;omega,by simp only;omega,h1,fun j hj hl=>?_⟩,by simp only;omega,uKF⟩
   have:=sorted_le hs (show m<=j from hj) hl
   omega
 ·refine awp_exit ?_
  have hba:b=a:=by omega
  subst hba
  have e1:=cutN_of hbl h1 h2
  rw[e1]
  by_cases c1:b<l.length
  ·have d1:decide ((b:Int)<l.length)=true:=decide_eq_true (by omega)
   have d2:decide (b<l.length)=true:=decide_eq_true c1
   rw[d2]
   cases c2:decide (l.getD b 0=x) with
   |true=>
    refine uR1 (uI @d1 (uI @c2 (ints_getD c1))) ?_;intro K hK
    refine uH ?_
    refine hK _ ?_;clear hK K
    refine uW ?_
    refine awp_ret ?_;rw[show Tryz.f123.results.toList=[.tmp 4, .tmp 5] from rfl];first|refine uRN ?_|exact uRM
    rfl
   |false=>
    refine uR1 (uI @d1 (uI @c2 (ints_getD c1))) ?_;intro K hK
    refine uH ?_
    refine callF uTS ((nan2_sat (l.getD b 0))) uTS uTS uTS ?_;refine uS ?_
    refine hK _ ?_;clear hK K
    refine uW ?_
    refine awp_ret ?_;rw[show Tryz.f123.results.toList=[.tmp 4, .tmp 5] from rfl];first|refine uRN ?_|exact uRM
    rfl
  ·have d1:decide ((b:Int)<l.length)=false:=decide_eq_false (by omega)
   have d2:decide (b<l.length)=false:=decide_eq_false c1
   rw[d2,Bool.false_and]
   repeat refine uA1 @d1 ?_
   refine awp_ret ?_;rw[show Tryz.f123.results.toList=[.tmp 4, .tmp 5] from rfl];first|refine uRN ?_|exact uRM
end Go.Proofs.YtkhjenddapaejaaGreatDoor
