/- Lemmas towards plantSteps_card: no conditions of their own beyond those that each one states. -/
import Derived.Test.YtkhjenddapaejaaGreatDoorA5
import Derived.ProofKit
import Derived.Deep.Matrix
import Derived.Deep.Strs
import Derived.LaidMore
import Derived.OpenShut
import Derived.Stop.Joined
set_option linter.all false
set_option linter.unusedSimpArgs false
set_option linter.unusedVariables false
set_option linter.deprecated false
namespace Go.Proofs.YtkhjenddapaejaaGreatDoor
open Go Go.Sym
def leadA (N i:Int) (x:Nd) (k:Nat):Bool:=inB (x.ex.getD k 0) 0 (N - 1)&&(decide (x.ex.getD k 0=i)==(decide (x.kd=5)&&decide (k=0)))
theorem leadP_two {N i:Int} {x:Nd} (h:(x.ex.length:Int)=exitsN x.kd):leadP N i x=((List.range x.ex.length).all (leadA N i x)&&!(decide (x.ex.length=2)&&decide (x.ex.getD 0 0=x.ex.getD 1 0))):=by
 have hl:x.ex.length=0\/x.ex.length=1\/x.ex.length=2:=by
  have:exitsN x.kd=0\/exitsN x.kd=1\/exitsN x.kd=2:=by unfold exitsN;split<;>(try split)<;>simp
  omega
 have hin:∀e:Int,inB e 0 (N - 1)=(decide (0<=e)&&decide (e<N)):=fun e=>by
  unfold inB
  congr 1
  by_cases h:e<N
  ·rw[decide_eq_true h,decide_eq_true (by omega)]
  ·rw[decide_eq_false h,decide_eq_false (by omega)]
 rw[leadP,decide_eq_true h,Bool.true_and]
 rcases hl with hl|hl|hl
 ·rw[hl];simp
 ·rw[hl];simp[List.range_succ,leadK,leadA,hin,Bool.and_assoc]
 ·match he:x.ex,hl with
  |[a,b],_=>
   simp[List.range_succ,leadK,leadA,hin,he,Bool.and_assoc]
   have:decide (b=a)=decide (a=b):=by by_cases h:a=b<;>simp[h,eq_comm]
   rw[this]
def loN (kd:Int):Int:=if kd=5 then 2 else if isStrip kd=true then 1 else 0
def hiN (kd:Int):Int:=if isStrip kd=true then 8 else 0
theorem lenOk_in (x:Nd):lenOk x=inB x.ln (loN x.kd) (hiN x.kd):=by
 unfold lenOk inB loN hiN
 by_cases h5:x.kd=5
 ·simp only[if_pos h5,if_pos (show isStrip x.kd=true by rw[h5];decide)]
 ·simp only[if_neg h5]
  split
  ·rfl
  ·by_cases h:x.ln=0
   ·simp[h]
   ·rw[decide_eq_false h]
    simp;omega
theorem rnode_sat (y:Ly) (i:Nat) (hi:i<y.nodes.length) (hN:y.nodes.length<=1000) (hx:(y.nodes.getD i default).ex.length<=1000) (hnm:(bs (y.nodes.getD i default).nm).length<=1000):
  SatG Tryz.prog tab 98 [] [y.av,I i] [] (I (nodeE y.nodes.length i (y.nodes.getD i default))):=by
 have h1:=name4_sat _ hnm
 generalize e1:y.nodes.getD i default=x at*
 have hE:nodeE y.nodes.length i x=_:=nodeE.eq_1 _ _ _
 have hlp:=fun h=>leadP_two (N:=y.nodes.length) (i:=i) (x:=x) h
 have hex:¬((x.ex.length:Int)=exitsN x.kd)->leadP y.nodes.length i x=false:=fun h=>by rw[leadP,decide_eq_false h,Bool.false_and]
 rw[lenOk_in] at hE
 generalize nodeE y.nodes.length i x=r at*
 generalize nameOk x.nm=a at*
 generalize leadP y.nodes.length i x=p at*
 refine uFN Tryz.func98 Tryz.ntmps98 ?_;intro w e X hC
 refine uA ?_
 repeat refine uA1 (uI (nds_getD hi) @e1) ?_
 refine uR ?_;intro K hK
 refine callF uTS (h1) uTS uTS uTS ?_;refine uS ?_
 refine hK _ ?_;clear hK K
 cases a with
 |false=>
  refine uT ?_
  repeat refine uA ?_
  rw[if_pos rfl] at hE
  subst hE
  (refine awp_ret (ret1 uRT ?_);try rfl)
 |true=>
 rw[if_neg (by decide)] at hE
 refine uF ?_
 refine uR ?_;intro K hK
 refine callF uTS ((in7_sat x.kd 1 9)) uTS uTS uTS ?_;refine uS ?_
 refine hK _ ?_;clear hK K
 cases d1:inB x.kd 1 9 with
 |false=>
  have:x.kd<1\/9<x.kd:=by simp[inB] at d1;omega
  rw[if_pos this] at hE
  subst hE
  refine uT ?_
  repeat refine uA ?_
  (refine awp_ret (ret1 uRT ?_);try rfl)
 |true=>
 rw[if_neg (by simp[inB] at d1;omega)] at hE
 refine uF ?_
 refine uA ?_
 refine awp_seq ?_
 refine awp_merge (fun q:Nat=>⟨[(1,I i),(2, .ptO 102 1 0 0 0),(5, .ptO 105 8 0 0 0),(6,I (if isStrip x.kd=true then 1 else 0)),(7,I (hiN x.kd))],(105,some (8, .box [S x.nm,I x.kd,I x.ln,I x.zn,IS x.ex]))::(102,some (1, .box [.sl (nds y.nodes) false, .sl (t3s y.devs) false]))::[],q⟩) (fun _=>True) ?_ ?_
 ·refine uR ?_;intro K hK
  refine callF uTS ((strip7_sat x.kd)) uTS uTS uTS ?_;refine uS ?_
  refine hK _ ?_;clear hK K
  unfold hiN
  cases isStrip x.kd with
  |true=>
   refine uT ?_
   repeat refine uA ?_
   refine⟨_,trivial,uKF⟩
  |false=>
   refine uF ?_
   refine uW ?_
   refine⟨_,trivial,uKF⟩
 rintro ck1 -
 refine awp_seq ?_
 refine awp_merge (fun q:Nat=>⟨[(1,I i),(2, .ptO 102 1 0 0 0),(5, .ptO 105 8 0 0 0),(6,I (loN x.kd)),(7,I (hiN x.kd))],(105,some (8, .box [S x.nm,I x.kd,I x.ln,I x.zn,IS x.ex]))::(102,some (1, .box [.sl (nds y.nodes) false, .sl (t3s y.devs) false]))::[],q⟩) (fun _=>True) ?_ ?_
 ·unfold loN
  by_cases c5:x.kd=5
  ·have d5:=decide_eq_true c5
   simp only[if_pos c5]
   refine uR1 @d5 ?_;intro K hK
   refine hK _ ?_;clear hK K
   refine uT ?_
   repeat refine uA ?_
   refine⟨_,trivial,uKF⟩
  ·have d5:=decide_eq_false c5
   simp only[if_neg c5]
   refine uR1 @d5 ?_;intro K hK
   refine hK _ ?_;clear hK K
   refine uF ?_
   refine uW ?_
   refine⟨_,trivial,uKF⟩
 rintro ck2 -
 have hi1:=in7_sat x.ln (loN x.kd) (hiN x.kd)
 have hi2:=in7_sat x.zn 0 1
 have hz:(x.zn=0\/x.zn=1)↔inB x.zn 0 1=true:=by simp[inB];omega
 simp only[hz] at hE
 generalize inB x.ln (loN x.kd) (hiN x.kd)=b1 at*
 generalize inB x.zn 0 1=b2 at*
 have hxs:=exits7_sat x.kd
 generalize exitsN x.kd=en at*
 cases b1 with
 |false=>
  rw[if_neg (by simp)] at hE
  subst hE
  refine uE ?_;intro K hK
  refine uH ?_
  refine callF uTS (hi1) uTS uTS uTS ?_;refine uS ?_
  refine uH ?_
  refine hK _ ?_;clear hK K
  refine uT ?_
  repeat refine uA ?_
  (refine awp_ret (ret1 uRT ?_);try rfl)
 |true=>
 cases b2 with
 |false=>
  rw[if_neg (by simp)] at hE
  subst hE
  refine uE ?_;intro K hK
  refine uH ?_
  refine callF uTS (hi1) uTS uTS uTS ?_;refine uS ?_
  refine callF uTS (hi2) uTS uTS uTS ?_;refine uS ?_
  refine uH ?_
  refine hK _ ?_;clear hK K
  refine uT ?_
  repeat refine uA ?_
  (refine awp_ret (ret1 uRT ?_);try rfl)
 |true=>
 by_cases c3:(x.ex.length:Int)=en
 ·have d3:decide (¬(x.ex.length:Int)=en)=false:=decide_eq_false (by omega)
  refine uE ?_;intro K hK
  refine uH ?_
  refine callF uTS (hi1) uTS uTS uTS ?_;refine uS ?_
  refine callF uTS (hi2) uTS uTS uTS ?_;refine uS ?_
  refine callF uTS (hxs) uTS uTS uTS ?_;refine uS ?_
  first|refine uS1 @d3 ?_|exact uX1 @d3
  refine uH ?_
  refine hK _ ?_;clear hK K
  refine uF ?_
  replace hlp:=hlp c3
  clear hex hxs hi1 hi2 hz c3 d3
  repeat refine uA ?_
  refine uW ?_
  refine awp_loopW (fun q:Nat×Nat=>⟨[(1,I i),(2, .ptO 102 1 0 0 0),(5, .ptO 105 8 0 0 0),(8,I q.2)],(105,some (8, .box [S x.nm,I x.kd,I x.ln,I x.zn,IS x.ex]))::(102,some (1, .box [.sl (nds y.nodes) false, .sl (t3s y.devs) false]))::[],q.1⟩) (fun q=>q.2<=x.ex.length/\∀j,j<q.2->leadA y.nodes.length i x j=true) (fun q=>x.ex.length - q.2) (_,0) ⟨Nat.zero_le _,fun j hj=>absurd hj (Nat.not_lt_zero _)⟩ (uKF) ?_
  rintro⟨ck3,k⟩ ⟨hk,hj⟩
  simp only at hk hj
  repeat refine uA ?_
  refine uW ?_;refine condP _ rfl (fun h=>?_) (fun h=>?_)
  ·have hlt:k<x.ex.length:=by omega
   have hbad:=range_all_false (p:=leadA y.nodes.length i x) hlt
   have hgood:leadA y.nodes.length i x k=true->∀j,j<k+1->leadA y.nodes.length i x j=true:=fun h j hj'=>by
    by_cases hji:j=k
    ·subst hji;exact h
    ·exact hj j (by omega)
   have hA:leadA y.nodes.length i x k=_:=leadA.eq_1 _ _ _ _
   generalize leadA y.nodes.length i x k=la at*
   iterate 3 (first|refine awp_skip ?_|refine awp_seq ?_|refine awp_block ?_)
   refine awp_seq ?_
   refine awp_merge (fun q:Nat=>⟨[(1,I i),(2, .ptO 102 1 0 0 0),(5, .ptO 105 8 0 0 0),(8,I k),(9,B (decide (x.kd=5)&&decide (k=0)))],(105,some (8, .box [S x.nm,I x.kd,I x.ln,I x.zn,IS x.ex]))::(102,some (1, .box [.sl (nds y.nodes) false, .sl (t3s y.devs) false]))::[],q⟩) (fun _=>True) ?_ ?_
   ·by_cases c5:x.kd=5
    ·have d5:=decide_eq_true c5
     by_cases c0:k=0
     ·have d0:decide ((k:Int)=0)=true:=decide_eq_true (by omega)
      repeat refine uA1 (uI @d5 @d0) ?_
      refine⟨_,trivial, .of (Nat.le_refl _) uHF (uWF1 (uI @d5 (uI @c0 @Bool.true_and)))⟩
     ·have d0:decide ((k:Int)=0)=false:=decide_eq_false (by omega)
      repeat refine uA1 (uI @d5 @d0) ?_
      refine⟨_,trivial, .of (Nat.le_refl _) uHF (uWF1 (uI @d5 (uI @c0 @Bool.true_and)))⟩
    ·have d5:=decide_eq_false c5
     repeat refine uA1 @d5 ?_
     refine⟨_,trivial, .of (Nat.le_refl _) uHF (uWF1 (uI @d5 @Bool.false_and))⟩
   rintro ck4 -
   have hin:=in7_sat (x.ex.getD k 0) 0 (y.nodes.length - 1)
   generalize inB (x.ex.getD k 0) 0 (y.nodes.length - 1)=b3 at*
   generalize (decide (x.kd=5)&&decide (k=0))=ow at*
   cases b3 with
   |false=>
    rw[Bool.false_and] at hA
    subst hA
    rw[hlp,hbad rfl,if_neg (by simp)] at hE
    subst hE
    refine uE1 (ints_getD hlt) ?_;intro K hK
    refine⟨by omega,by omega,?_⟩
    refine callF uTS (hin) uTS uTS uTS ?_;refine uS ?_
    refine uH ?_
    refine hK _ ?_;clear hK K
    refine uT ?_
    repeat refine uA ?_
    (refine awp_ret (ret1 uRT ?_);try rfl)
   |true=>
    rw[Bool.true_and] at hA
    refine uE1 (ints_getD hlt) ?_;intro K hK
    refine⟨by omega,by omega,?_⟩
    refine callF uTS (hin) uTS uTS uTS ?_;refine uS ?_
    first|refine uS1 (uI (ints_getD hlt) @hA.symm) ?_|exact uX1 (uI (ints_getD hlt) @hA.symm)
    refine uH ?_
    refine hK _ ?_;clear hK K
    cases la with
    |false=>
     rw[hlp,hbad rfl,if_neg (by simp)] at hE
     subst hE
     refine uT ?_
     repeat refine uA ?_
     (refine awp_ret (ret1 uRT ?_);try rfl)
    |true=>
     refine uF ?_
     repeat refine uA ?_
     refine⟨(_,k+1),⟨by simp only;omega,hgood rfl⟩,by simp only;omega,uKF⟩
  ·refine awp_exit ?_
   obtain rfl:k=x.ex.length:=by omega
   rw[range_all_true hj,Bool.true_and] at hlp
   by_cases c2:x.ex.length=2
   ·have d2:decide ((x.ex.length:Int)=2)=true:=decide_eq_true (by omega)
    rw[decide_eq_true c2,Bool.true_and] at hlp
    have hl0:0<x.ex.length:=by omega
    have hl1:1<x.ex.length:=by omega
    refine uE1 (uI @d2 (uI (ints_getD hl0) (uI (ints_getD hl1) (uI @Int.toNat_zero @Int.toNat_one)))) ?_;intro K hK
    refine uH ?_
    refine hK _ ?_;clear hK K
    refine uW ?_;refine condP _ rfl (fun c4=>?_) (fun c4=>?_)
    ·rw[decide_eq_true c4] at hlp
     rw[hlp,if_neg (by simp)] at hE
     subst hE
     repeat refine uA ?_
     (refine awp_ret (ret1 uRT ?_);try rfl)
    ·rw[decide_eq_false c4] at hlp
     rw[hlp,if_pos (by simp)] at hE
     subst hE
     repeat refine uA ?_
     (refine awp_ret (ret1 uRT ?_);try rfl)
   ·have d2:decide ((x.ex.length:Int)=2)=false:=decide_eq_false (by omega)
    rw[decide_eq_false c2,Bool.false_and] at hlp
    rw[hlp,if_pos (by simp)] at hE
    subst hE
    refine uE1 @d2 ?_;intro K hK
    refine uH ?_
    refine hK _ ?_;clear hK K
    refine uF ?_
    repeat refine uA ?_
    (refine awp_ret (ret1 uRT ?_);try rfl)
 ·have d3:decide (¬(x.ex.length:Int)=en)=true:=decide_eq_true c3
  rw[if_neg (by rw[hex c3];simp)] at hE
  subst hE
  refine uE ?_;intro K hK
  refine uH ?_
  refine callF uTS (hi1) uTS uTS uTS ?_;refine uS ?_
  refine callF uTS (hi2) uTS uTS uTS ?_;refine uS ?_
  refine callF uTS (hxs) uTS uTS uTS ?_;refine uS ?_
  first|refine uS1 @d3 ?_|exact uX1 @d3
  refine uH ?_
  refine hK _ ?_;clear hK K
  refine uT ?_
  repeat refine uA ?_
  (refine awp_ret (ret1 uRT ?_);try rfl)
def zf (x:Nd):Bool:=decide (x.kd=1)||(decide (x.kd=3)||decide (x.kd=6))
def zs (x:Nd):Bool:=decide (x.kd=7)||decide (x.kd=8)
theorem zoneA_fs (x:Nd):zoneA x=!((zf x&&decide (¬x.zn=0))||(zs x&&decide (¬x.zn=1))):=by
 unfold zoneA zf zs
 by_cases h1:x.kd=1\/x.kd=3\/x.kd=6
 ·rw[if_pos h1]
  have h7:¬x.kd=7:=by omega
  have h8:¬x.kd=8:=by omega
  have:(decide (x.kd=1)||(decide (x.kd=3)||decide (x.kd=6)))=true:=by simpa using h1
  rw[this,decide_eq_false h7,decide_eq_false h8]
  simp
 ·rw[if_neg h1]
  have:(decide (x.kd=1)||(decide (x.kd=3)||decide (x.kd=6)))=false:=by simpa using h1
  rw[this]
  by_cases h2:x.kd=7\/x.kd=8
  ·rw[if_pos h2]
   have:(decide (x.kd=7)||decide (x.kd=8))=true:=by simpa using h2
   rw[this];simp
  ·rw[if_neg h2]
   have:(decide (x.kd=7)||decide (x.kd=8))=false:=by simpa using h2
   rw[this];simp
theorem rzoned_sat (y:Ly) (hN:y.nodes.length<=1000) (hx:∀i,i<y.nodes.length->(y.nodes.getD i default).ex.length<=1000) (hr:∀i,i<y.nodes.length->∀k,k<(y.nodes.getD i default).ex.length->0<=(y.nodes.getD i default).ex.getD k 0/\(y.nodes.getD i default).ex.getD k 0<y.nodes.length):
  SatG Tryz.prog tab 99 [] [y.av] [] (B (zonesB y.nodes)):=by
 refine uFN Tryz.func99 Tryz.ntmps99 ?_;intro w e X hC
 repeat refine uA ?_
 refine uW ?_
 refine awp_loopW (fun q:Nat×Nat=>⟨[(1, .ptO 101 1 0 0 0),(3,I q.2)],(101,some (1, .box [.sl (nds y.nodes) false, .sl (t3s y.devs) false]))::[],q.1⟩) (fun q=>q.2<=y.nodes.length/\∀j,j<q.2->zoneB y.nodes (y.nodes.getD j default)=true) (fun q=>y.nodes.length - q.2) (_,0) ⟨Nat.zero_le _,fun j hj=>absurd hj (Nat.not_lt_zero _)⟩ (uKF) ?_
 rintro⟨ck,i⟩ ⟨hi,hj⟩
 simp only at hi hj
 repeat refine uA ?_
 refine uW ?_;refine condP _ rfl (fun h=>?_) (fun h=>?_)
 ·have hlt:i<y.nodes.length:=by omega
  have hbad:=range_all_false (p:=fun i=>zoneB y.nodes (y.nodes.getD i default)) hlt
  have hzB:zonesB y.nodes=_:=zonesB.eq_1 y.nodes
  try simp only at hbad
  rw[<-hzB] at hbad
  have hgood:zoneB y.nodes (y.nodes.getD i default)=true->∀j,j<i+1->zoneB y.nodes (y.nodes.getD j default)=true:=fun h j hj'=>by
   by_cases hji:j=i
   ·subst hji;exact h
   ·exact hj j (by omega)
  have hxi:=hx i hlt
  have hri:=hr i hlt
  clear hzB
  generalize e1:y.nodes.getD i default=x at*
  have hZ:zoneB y.nodes x=_:=zoneB.eq_1 _ _
  rw[zoneA_fs] at hZ
  iterate 3 (first|refine awp_skip ?_|refine awp_seq ?_|refine awp_block ?_)
  refine awp_seq ?_
  refine uR1 (uI (nds_getD hlt) @e1) ?_;intro K hK
  refine uH ?_
  refine hK _ ?_;clear hK K
  refine awp_weak (s':=⟨[(1, .ptO 101 1 0 0 0),(3,I i),(4, .ptO 104 (ck+10) 0 0 0)],(104,some (ck+10, .box [S x.nm,I x.kd,I x.ln,I x.zn,IS x.ex]))::(101,some (1, .box [.sl (nds y.nodes) false, .sl (t3s y.devs) false]))::[],_⟩) (uKF) ?_
  generalize hgk:ck+10=g
  clear hgk
  refine awp_seq ?_
  refine awp_merge (fun q:Nat=>⟨[(1, .ptO 101 1 0 0 0),(3,I i),(4, .ptO 104 g 0 0 0),(5,B (zf x))],(104,some (g, .box [S x.nm,I x.kd,I x.ln,I x.zn,IS x.ex]))::(101,some (1, .box [.sl (nds y.nodes) false, .sl (t3s y.devs) false]))::[],q⟩) (fun _=>True) ?_ ?_
  ·unfold zf
   cases d1:decide (x.kd=1) with
   |true=>
    repeat refine uA1 @d1 ?_
    refine⟨_,trivial,uKF⟩
   |false=>
   cases d3:decide (x.kd=3) with
   |true=>
    repeat refine uA1 (uI @d1 @d3) ?_
    refine⟨_,trivial,uKF⟩
   |false=>
    repeat refine uA1 (uI @d1 @d3) ?_
    refine⟨_,trivial,uKF⟩
  rintro ck1 -
  refine awp_seq ?_
  refine awp_merge (fun q:Nat=>⟨[(1, .ptO 101 1 0 0 0),(3,I i),(4, .ptO 104 g 0 0 0),(5,B (zf x)),(6,B (zs x))],(104,some (g, .box [S x.nm,I x.kd,I x.ln,I x.zn,IS x.ex]))::(101,some (1, .box [.sl (nds y.nodes) false, .sl (t3s y.devs) false]))::[],q⟩) (fun _=>True) ?_ ?_
  ·unfold zs
   cases d1:decide (x.kd=7) with
   |true=>
    repeat refine uA1 @d1 ?_
    refine⟨_,trivial,uKF⟩
   |false=>
    repeat refine uA1 @d1 ?_
    refine⟨_,trivial,uKF⟩
  rintro ck2 -
  generalize zf x=f at*
  generalize zs x=sc at*
  have hb0:∀u:Bool,zoneB y.nodes x=(false&&u)->zoneB y.nodes x=false:=fun u h=>by rw[h,Bool.false_and]
  refine awp_seq ?_
  refine awp_merge (fun q:Nat=>⟨[(1, .ptO 101 1 0 0 0),(3,I i),(4, .ptO 104 g 0 0 0)],(104,some (g, .box [S x.nm,I x.kd,I x.ln,I x.zn,IS x.ex]))::(101,some (1, .box [.sl (nds y.nodes) false, .sl (t3s y.devs) false]))::[],q⟩) (fun _=>zoneB y.nodes x=(List.range x.ex.length).all (zoneK y.nodes x)) ?_ ?_
  ·cases f with
   |true=>
    cases z0:decide (¬x.zn=0) with
    |true=>
     rw[z0] at hZ
     repeat first|refine uC ?_|refine uA1 @z0 ?_
     rw[hbad (hb0 _ hZ)]
     (refine awp_ret (ret1 uRT ?_);try rfl)
    |false=>
     rw[z0] at hZ
     cases sc with
     |true=>
      cases z1:decide (¬x.zn=1) with
      |true=>
       rw[z1] at hZ
       repeat first|refine uC ?_|refine uA1 (uI @z0 @z1) ?_
       rw[hbad (hb0 _ hZ)]
       (refine awp_ret (ret1 uRT ?_);try rfl)
      |false=>
       rw[z1] at hZ
       repeat first|refine uC ?_|refine uA1 (uI @z0 @z1) ?_
       refine uW ?_
       refine⟨_,hZ,uKF⟩
     |false=>
      repeat first|refine uC ?_|refine uA1 @z0 ?_
      refine uW ?_
      refine⟨_,hZ,uKF⟩
   |false=>
    cases sc with
    |true=>
     cases z1:decide (¬x.zn=1) with
     |true=>
      rw[z1] at hZ
      repeat first|refine uC ?_|refine uA1 @z1 ?_
      rw[hbad (hb0 _ hZ)]
      (refine awp_ret (ret1 uRT ?_);try rfl)
     |false=>
      rw[z1] at hZ
      repeat first|refine uC ?_|refine uA1 @z1 ?_
      refine uW ?_
      refine⟨_,hZ,uKF⟩
    |false=>
     repeat first|refine uC ?_|refine uA ?_
     refine uW ?_
     refine⟨_,hZ,uKF⟩
  rintro ck3 hZ2
  clear hZ hb0
  repeat refine uA ?_
  refine uW ?_
  refine awp_loopW (fun q:Nat×Nat=>⟨[(1, .ptO 101 1 0 0 0),(3,I i),(4, .ptO 104 g 0 0 0),(7,I q.2)],(104,some (g, .box [S x.nm,I x.kd,I x.ln,I x.zn,IS x.ex]))::(101,some (1, .box [.sl (nds y.nodes) false, .sl (t3s y.devs) false]))::[],q.1⟩) (fun q=>q.2<=x.ex.length/\∀j,j<q.2->zoneK y.nodes x j=true) (fun q=>x.ex.length - q.2) (_,0) ⟨Nat.zero_le _,fun j hj=>absurd hj (Nat.not_lt_zero _)⟩ (uKF) ?_
  rintro⟨ck,k⟩ ⟨hk,hj2⟩
  simp only at hk hj2
  repeat refine uA ?_
  refine uW ?_;refine condP _ rfl (fun h2=>?_) (fun h2=>?_)
  ·have hlt2:k<x.ex.length:=by omega
   obtain⟨r0,r1⟩:=hri k hlt2
   have hbad2:zoneK y.nodes x k=false->zonesB y.nodes=false:=fun h=>hbad (by rw[hZ2,range_all_false hlt2 h])
   have hgood2:zoneK y.nodes x k=true->∀j,j<k+1->zoneK y.nodes x j=true:=fun h j hj'=>by
    by_cases hji:j=k
    ·subst hji;exact h
    ·exact hj2 j (by omega)
   obtain⟨zk,hzk⟩:∃zk,zk=zoneK y.nodes x k:=⟨_,rfl⟩
   rw[<-hzk] at hbad2 hgood2
   unfold zoneK at hzk
   obtain⟨m,hm⟩:∃m,m=(x.ex.getD k 0).toNat:=⟨_,rfl⟩
   have hmm:x.ex.getD k 0=(m:Int):=by omega
   rw[<-hm] at hzk
   have hmn:m<y.nodes.length:=by omega
   generalize e3:y.nodes.getD m default=t at*
   refine uD1 (uI (ints_getD hlt2) (uI @hmm (uI (nds_getD hmn) @e3))) ?_;intro K hK
   refine uH ?_
   refine hK _ ?_;clear hK K
   refine awp_weak (s':=⟨[(1, .ptO 101 1 0 0 0),(3,I i),(4, .ptO 104 g 0 0 0),(7,I k),(8, .ptO 108 (ck+14) 0 0 0)],(108,some (ck+14, .box [S t.nm,I t.kd,I t.ln,I t.zn,IS t.ex]))::(104,some (g, .box [S x.nm,I x.kd,I x.ln,I x.zn,IS x.ex]))::(101,some (1, .box [.sl (nds y.nodes) false, .sl (t3s y.devs) false]))::[],_⟩) (uKF) ?_
   generalize hgk:ck+14=g2
   clear hgk
   refine uA ?_
   refine awp_seq ?_
   refine awp_merge (fun q:Nat=>⟨[(1, .ptO 101 1 0 0 0),(3,I i),(4, .ptO 104 g 0 0 0),(7,I k),(8, .ptO 108 g2 0 0 0),(9,I (zoneW x k))],(108,some (g2, .box [S t.nm,I t.kd,I t.ln,I t.zn,IS t.ex]))::(104,some (g, .box [S x.nm,I x.kd,I x.ln,I x.zn,IS x.ex]))::(101,some (1, .box [.sl (nds y.nodes) false, .sl (t3s y.devs) false]))::[],q⟩) (fun _=>True) ?_ ?_
   ·by_cases c6:x.kd=6
    ·have d6:=decide_eq_true c6
     by_cases ck1:k=1
     ·have dk:decide ((k:Int)=1)=true:=decide_eq_true (by omega)
      have hw:zoneW x k=1:=by rw[zoneW,if_pos ⟨c6,ck1⟩]
      repeat first|refine uC ?_|refine uA1 (uI @d6 @dk) ?_
      refine uW ?_
      refine⟨_,trivial, .of (Nat.le_refl _) (uHF1 @hw) (uWF1 @hw)⟩
     ·have dk:decide ((k:Int)=1)=false:=decide_eq_false (by omega)
      have hw:zoneW x k=x.zn:=by rw[zoneW,if_neg (fun h=>ck1 h.2)]
      repeat first|refine uC ?_|refine uA1 (uI @d6 @dk) ?_
      refine uW ?_
      refine⟨_,trivial, .of (Nat.le_refl _) (uHF1 @hw) (uWF1 @hw)⟩
    ·have d6:=decide_eq_false c6
     have hw:zoneW x k=x.zn:=by rw[zoneW,if_neg (fun h=>c6 h.1)]
     repeat first|refine uC ?_|refine uA1 @d6 ?_
     refine uW ?_
     refine⟨_,trivial, .of (Nat.le_refl _) (uHF1 @hw) (uWF1 @hw)⟩
   rintro ck4 -
   generalize zoneW x k=wt at*
   cases c1:decide (t.kd=1) with
   |true=>
    rw[c1,Bool.true_or] at hzk
    repeat first|refine uC ?_|refine uA1 @c1 ?_
    rw[hbad2 hzk]
    (refine awp_ret (ret1 uRT ?_);try rfl)
   |false=>
    cases c2:decide (¬t.zn=wt) with
    |true=>
     rw[c1,c2] at hzk
     repeat first|refine uC ?_|refine uA1 (uI @c1 @c2) ?_
     rw[hbad2 hzk]
     (refine awp_ret (ret1 uRT ?_);try rfl)
    |false=>
     rw[c1,c2] at hzk
     repeat first|refine uC ?_|refine uA1 (uI @c1 @c2) ?_
     refine⟨(_,k+1),⟨by simp only;omega,hgood2 hzk⟩,by simp only;omega,uKF⟩
  ·refine awp_exit ?_
   rw[range_all_true fun j hj'=>hj2 j (by omega)] at hZ2
   repeat refine uA ?_
   refine⟨(_,i+1),⟨by simp only;omega,hgood hZ2⟩,by simp only;omega,uKF⟩
 ·refine awp_exit ?_
  have:zonesB y.nodes=true:=range_all_true fun j hj'=>hj j (by omega)
  rw[this]
  repeat refine uA ?_
  (refine awp_ret (ret1 uRT ?_);try rfl)
theorem cnt_take {xs:List Nd} {k:Nat} (h:k<xs.length):(xs.take (k+1)).countP (fun x=>decide (x.kd=1))=(xs.take k).countP (fun x=>decide (x.kd=1))+if(xs.getD k default).kd=1 then 1 else 0:=by
 rw[take_getD (d:=default) h,List.countP_append]
 congr 1
 by_cases h1:(xs.getD k default).kd=1
 ·rw[if_pos h1,List.countP_cons_of_pos (by exact decide_eq_true h1)];rfl
 ·rw[if_neg h1,List.countP_cons_of_neg (by simpa only[decide_eq_true_eq] using h1)];rfl
theorem ent_cnt (xs:List Nd):entB xs=decide (¬xs.countP (fun x=>decide (x.kd=1))=0):=by
 rw[entB,Bool.eq_iff_iff,decide_eq_true_eq,List.countP_eq_zero,List.any_eq_true]
 constructor
 ·rintro⟨x,hx,h1⟩ h2
  exact h2 x hx h1
 ·intro h
  refine Decidable.byContradiction fun h2=>h fun x hx h1=>h2 ⟨x,hx,h1⟩
theorem rvalidate_sat (y:Ly) (hs:Sml7 y):SatG Tryz.prog tab 58 [] [y.av] [] (I (validE y)):=by
 obtain⟨hN,hD,hx,hnm⟩:=hs
 have hnode:=fun i hi=>rnode_sat y i hi hN (hx i hi) (hnm i hi)
 have htot:=total_sat y hN
 have hfnd:=fun nm=>find_sat y nm hN
 have hzon:=rzoned_sat y hN hx
 have hord:=order7_sat y hN hx
 have hE:validE y=_:=validE.eq_1 y
 rw[ent_cnt] at hE
 generalize validE y=r at*
 refine uFN Tryz.func58 Tryz.ntmps58 ?_;intro w e X hC
 repeat refine uA ?_
 cases d1:decide (24<(y.nodes.length:Int)) with
 |true=>
  have h1:=of_decide_eq_true d1
  rw[if_pos (.inl (by omega))] at hE
  subst hE
  repeat first|refine uC ?_|refine uA1 @d1 ?_
  (refine awp_ret (ret1 uRT ?_);try rfl)
 |false=>
 have h1:=of_decide_eq_false d1
 cases d2:decide (24<(y.devs.length:Int)) with
 |true=>
  have h2:=of_decide_eq_true d2
  rw[if_pos (.inr (by omega))] at hE
  subst hE
  repeat first|refine uC ?_|refine uA1 (uI @d1 @d2) ?_
  (refine awp_ret (ret1 uRT ?_);try rfl)
 |false=>
 have h2:=of_decide_eq_false d2
 rw[if_neg (by omega)] at hE
 refine uR1 (uI @d1 @d2) ?_;intro K hK
 refine hK _ ?_;clear hK K
 refine uF ?_
 repeat refine uA ?_
 refine uW ?_
 refine awp_loopW (fun q:Nat×Nat=>⟨[(1, .ptO 101 1 0 0 0),(3,I ((y.nodes.take q.2).countP (fun x=>decide (x.kd=1)):Nat)),(4,I q.2)],(101,some (1, .box [.sl (nds y.nodes) false, .sl (t3s y.devs) false]))::[],q.1⟩) (fun q=>q.2<=y.nodes.length/\∀j,j<q.2->nodeE y.nodes.length j (y.nodes.getD j default)=0) (fun q=>y.nodes.length - q.2) (_,0) ⟨Nat.zero_le _,fun j hj=>absurd hj (Nat.not_lt_zero _)⟩ (uKF) ?_
 rintro⟨ck,k⟩ ⟨hk,hj⟩
 simp only at hk hj
 have hcnt:(y.nodes.take k).countP (fun x=>decide (x.kd=1))<=k:=Nat.le_trans List.countP_le_length (by rw[List.length_take];omega)
 have hcf:k=y.nodes.length->(y.nodes.take k).countP (fun x=>decide (x.kd=1))=y.nodes.countP (fun x=>decide (x.kd=1)):=fun h=>by rw[h,List.take_length]
 have hct:=cnt_take (xs:=y.nodes) (k:=k)
 generalize (y.nodes.take k).countP (fun x=>decide (x.kd=1))=ct at*
 repeat refine uA ?_
 refine uW ?_;refine condP _ rfl (fun h=>?_) (fun h=>?_)
 ·have hlt:k<y.nodes.length:=by omega
  replace hct:=hct hlt
  have hbad:=nodesE_bad hlt hj
  have hsat:=hnode k hlt
  have hgood:nodeE y.nodes.length k (y.nodes.getD k default)=0->∀j,j<k+1->nodeE y.nodes.length j (y.nodes.getD j default)=0:=fun h j hj'=>by
   by_cases hji:j=k
   ·subst hji;exact h
   ·exact hj j (by omega)
  generalize nodeE y.nodes.length k (y.nodes.getD k default)=e at*
  generalize e2:y.nodes.getD k default=x at*
  refine uR ?_;intro K hK
  refine callF uTS (hsat) uTS uTS uTS ?_;refine uS ?_
  refine hK _ ?_;clear hK K
  repeat refine uA ?_
  refine uW ?_;refine condP _ rfl (fun c1=>?_) (fun c1=>?_)
  ·rw[if_pos (by rw[hbad c1];exact c1),hbad c1] at hE
   subst hE
   repeat refine uA ?_
   (refine awp_ret (ret1 uRT ?_);try rfl)
  ·have hg2:=hgood (Decidable.byContradiction c1)
   by_cases c2:x.kd=1
   ·have d3:=decide_eq_true c2
    rw[if_pos c2] at hct
    repeat first|refine uC ?_|refine uA1 (uI (nds_getD hlt) (uI @e2 @d3)) ?_
    refine⟨(_,k+1),⟨by simp only;omega,hg2⟩,by simp only;omega, .of (Nat.le_refl _) uHF (uWF1 @hct)⟩
   ·have d3:=decide_eq_false c2
    rw[if_neg c2] at hct
    repeat first|refine uC ?_|refine uA1 (uI (nds_getD hlt) (uI @e2 @d3)) ?_
    refine⟨(_,k+1),⟨by simp only;omega,hg2⟩,by simp only;omega, .of (Nat.le_refl _) uHF (uWF1 @hct)⟩
 ·refine awp_exit ?_
  obtain rfl:k=y.nodes.length:=by omega
  rw[<-hcf rfl] at hE
  rw[if_neg (by rw[nodesE_ok hj];simp)] at hE
  replace htot:=htot fun i hi=>⟨(nodeE_len (hj i hi)).1,by have:=(nodeE_len (hj i hi)).2.1;omega⟩
  replace hzon:=hzon fun i hi k hk=>nodeE_ex (hj i hi) k hk
  have hlns:∀i,i<y.nodes.length->0<=(y.nodes.getD i default).ln/\(y.nodes.getD i default).ln<=8:=fun i hi=>⟨(nodeE_len (hj i hi)).1,(nodeE_len (hj i hi)).2.1⟩
  clear hj hnode hct hcf
  have hnB:namedB y.nodes=_:=namedB.eq_1 y.nodes
  generalize total y.nodes=t at*
  generalize namedB y.nodes=nb at*
  generalize zonesB y.nodes=zb at*
  generalize order y.nodes=o at*
  refine uR ?_;intro K hK
  refine callF uTS (htot) uTS uTS uTS ?_;refine uS ?_
  refine hK _ ?_;clear hK K
  refine uW ?_;refine condP _ rfl (fun c1=>?_) (fun c1=>?_)
  ·rw[if_pos c1] at hE
   subst hE
   repeat refine uA ?_
   (refine awp_ret (ret1 uRT ?_);try rfl)
  rw[if_neg c1] at hE
  repeat refine uA ?_
  refine uW ?_
  refine awp_loopW (fun q:Nat×Nat=>⟨[(1, .ptO 101 1 0 0 0),(3,I ct),(6,I q.2)],(101,some (1, .box [.sl (nds y.nodes) false, .sl (t3s y.devs) false]))::[],q.1⟩) (fun q=>q.2<=y.nodes.length/\∀j,j<q.2->decide (findN y.nodes (y.nodes.getD j default).nm=(j:Int))=true) (fun q=>y.nodes.length - q.2) (_,0) ⟨Nat.zero_le _,fun j hj=>absurd hj (Nat.not_lt_zero _)⟩ (uKF) ?_
  rintro⟨ck2,k⟩ ⟨hk,hj⟩
  simp only at hk hj
  repeat refine uA ?_
  refine uW ?_;refine condP _ rfl (fun h3=>?_) (fun h3=>?_)
  ·have hlt:k<y.nodes.length:=by omega
   have hbad:=range_all_false (p:=fun i=>decide (findN y.nodes (y.nodes.getD i default).nm=(i:Int))) hlt
   try simp only at hbad
   rw[<-hnB] at hbad
   have hsat:=hfnd (y.nodes.getD k default).nm
   have hgood:decide (findN y.nodes (y.nodes.getD k default).nm=(k:Int))=true->∀j,j<k+1->decide (findN y.nodes (y.nodes.getD j default).nm=(j:Int))=true:=fun h j hj'=>by
    by_cases hji:j=k
    ·subst hji;exact h
    ·exact hj j (by omega)
   generalize e2:y.nodes.getD k default=x at*
   generalize findN y.nodes x.nm=f at*
   refine uE1 (uI (nds_getD hlt) @e2) ?_;intro K hK
   refine⟨by omega,?_⟩
   refine callF uTS (hsat) uTS uTS uTS ?_;refine uS ?_
   refine uH ?_
   refine hK _ ?_;clear hK K
   refine uW ?_;refine condP _ rfl (fun c2=>?_) (fun c2=>?_)
   ·rw[if_pos (hbad (decide_eq_false c2))] at hE
    subst hE
    repeat refine uA ?_
    (refine awp_ret (ret1 uRT ?_);try rfl)
   ·repeat refine uA ?_
    refine⟨(_,k+1),⟨by simp only;omega,hgood (decide_eq_true (Decidable.byContradiction c2))⟩,by simp only;omega,uKF⟩
  refine awp_exit ?_
  rw[if_neg (by rw[hnB,range_all_true fun j hj'=>hj j (by omega)];decide)] at hE
  clear hj
  refine uR ?_;intro K hK
  refine callF uTS (hzon) uTS uTS uTS ?_;refine uS ?_
  refine hK _ ?_;clear hK K
  cases zb with
  |false=>
   rw[if_pos rfl] at hE
   subst hE
   refine uT ?_
   repeat refine uA ?_
   (refine awp_ret (ret1 uRT ?_);try rfl)
  |true=>
  rw[if_neg (by decide)] at hE
  refine uF ?_
  refine uE ?_;intro K hK
  refine callP uTS (hord) uTS uTS uTS ?_;refine uS ?_
  refine uH ?_
  refine hK _ ?_;clear hK K
  refine uW ?_;refine condP _ rfl (fun c2=>?_) (fun c2=>?_)
  ·rw[if_pos (by omega)] at hE
   subst hE
   repeat refine uA ?_
   (refine awp_ret (ret1 uRT ?_);try rfl)
  rw[if_neg (by omega)] at hE
  repeat refine uA ?_
  refine uW ?_
  refine awp_loopW (fun q:Nat×Nat=>⟨[(1, .ptO 101 1 0 0 0),(3,I ct),(7,I q.2)],(101,some (1, .box [.sl (nds y.nodes) false, .sl (t3s y.devs) false]))::[],q.1⟩) (fun q=>q.2<=y.devs.length/\∀j,j<q.2->devOne y.nodes (y.devs.getD j default)=0) (fun q=>y.devs.length - q.2) (_,0) ⟨Nat.zero_le _,fun j hj=>absurd hj (Nat.not_lt_zero _)⟩ (uKF) ?_
  rintro⟨ck3,k⟩ ⟨hk,hj⟩
  simp only at hk hj
  repeat refine uA ?_
  refine uW ?_;refine condP _ rfl (fun h4=>?_) (fun h4=>?_)
  ·have hlt:k<y.devs.length:=by omega
   have hbad:=devE_bad hlt hj
   have hgood:devOne y.nodes (y.devs.getD k default)=0->∀j,j<k+1->devOne y.nodes (y.devs.getD j default)=0:=fun h j hj'=>by
    by_cases hji:j=k
    ·subst hji;exact h
    ·exact hj j (by omega)
   have hO:devOne y.nodes (y.devs.getD k default)=_:=devOne.eq_1 _ _
   generalize devOne y.nodes (y.devs.getD k default)=dv at*
   generalize e2:y.devs.getD k default=d at*
   iterate 3 (first|refine awp_skip ?_|refine awp_seq ?_|refine awp_block ?_)
   refine awp_seq ?_
   refine uR1 (uI (t3s_getD hlt) @e2) ?_;intro K hK
   refine uH ?_
   refine hK _ ?_;clear hK K
   refine awp_weak (s':=⟨[(1, .ptO 101 1 0 0 0),(3,I ct),(7,I k),(8, .ptO 108 (ck3+10) 0 0 0)],(108,some (ck3+10, .box [I d.a,I d.b,I d.c]))::(101,some (1, .box [.sl (nds y.nodes) false, .sl (t3s y.devs) false]))::[],_⟩) (uKF) ?_
   generalize hgk:ck3+10=g
   clear hgk
   refine awp_seq ?_
   refine awp_merge (fun q:Nat=>⟨[(1, .ptO 101 1 0 0 0),(3,I ct),(7,I k),(8, .ptO 108 g 0 0 0)],(108,some (g, .box [I d.a,I d.b,I d.c]))::(101,some (1, .box [.sl (nds y.nodes) false, .sl (t3s y.devs) false]))::[],q⟩) (fun _=>¬(¬d.a=1/\¬d.a=2)) ?_ ?_
   ·cases q1:decide (¬d.a=1) with
    |true=>
     have g1:=of_decide_eq_true q1
     cases q2:decide (¬d.a=2) with
     |true=>
      have g2:=of_decide_eq_true q2
      rw[if_pos ⟨g1,g2⟩] at hO
      rw[if_pos (by rw[hbad (by omega)];omega),hbad (by omega),hO] at hE
      subst hE
      repeat first|refine uC ?_|refine uA1 (uI @q1 @q2) ?_
      (refine awp_ret (ret1 uRT ?_);try rfl)
     |false=>
      have g2:=of_decide_eq_false q2
      repeat first|refine uC ?_|refine uA1 (uI @q1 @q2) ?_
      refine uW ?_
      refine⟨_,fun h=>g2 h.2,uKF⟩
    |false=>
     have g1:=of_decide_eq_false q1
     repeat first|refine uC ?_|refine uA1 @q1 ?_
     refine uW ?_
     refine⟨_,fun h=>g1 h.1,uKF⟩
   rintro ck4 hak
   rw[if_neg hak] at hO
   have hi1:=in7_sat d.b 0 (y.nodes.length - 1)
   cases b3:inB d.b 0 (y.nodes.length - 1) with
   |false=>
    rw[b3] at hi1
    rw[if_pos (by simp[inB] at b3;omega)] at hO
    rw[if_pos (by rw[hbad (by omega)];omega),hbad (by omega),hO] at hE
    subst hE
    refine uE ?_;intro K hK
    refine uH ?_
    refine callF uTS (hi1) uTS uTS uTS ?_;refine uS ?_
    refine uH ?_
    refine hK _ ?_;clear hK K
    refine uT ?_
    repeat refine uA ?_
    (refine awp_ret (ret1 uRT ?_);try rfl)
   |true=>
    rw[b3] at hi1
    have hb1:0<=d.b/\d.b<y.nodes.length:=by simp[inB] at b3;omega
    obtain⟨m,hm⟩:∃m,m=d.b.toNat:=⟨_,rfl⟩
    have hmm:d.b=(m:Int):=by omega
    rw[<-hm] at hO
    have hmn:m<y.nodes.length:=by omega
    have hlm:=hlns m hmn
    generalize e3:y.nodes.getD m default=x at*
    have hi2:=in7_sat d.c 0 (x.ln - 1)
    rw[hmm] at hi1
    cases b4:inB d.c 0 (x.ln - 1) with
    |false=>
     rw[b4] at hi2
     rw[if_pos (by simp[inB] at b4;omega)] at hO
     rw[if_pos (by rw[hbad (by omega)];omega),hbad (by omega),hO] at hE
     subst hE
     refine uE1 @hmm ?_;intro K hK
     refine uH ?_
     refine callF uTS (hi1) uTS uTS uTS ?_;refine uS ?_
     first|refine uS1 (uI @hmm (uI (nds_getD hmn) @e3)) ?_|exact uX1 (uI @hmm (uI (nds_getD hmn) @e3))
     refine uH ?_
     refine callF uTS (hi2) uTS uTS uTS ?_;refine uS ?_
     refine uH ?_
     refine hK _ ?_;clear hK K
     refine uT ?_
     repeat refine uA ?_
     (refine awp_ret (ret1 uRT ?_);try rfl)
    |true=>
     rw[b4] at hi2
     rw[if_neg (by simp[inB] at b4;omega)] at hO
     refine uE1 @hmm ?_;intro K hK
     refine uH ?_
     refine callF uTS (hi1) uTS uTS uTS ?_;refine uS ?_
     first|refine uS1 (uI @hmm (uI (nds_getD hmn) @e3)) ?_|exact uX1 (uI @hmm (uI (nds_getD hmn) @e3))
     refine uH ?_
     refine callF uTS (hi2) uTS uTS uTS ?_;refine uS ?_
     refine uH ?_
     refine hK _ ?_;clear hK K
     refine uF ?_
     repeat refine uA ?_
     refine⟨(_,k+1),⟨by simp only;omega,hgood hO⟩,by simp only;omega,uKF⟩
  refine awp_exit ?_
  obtain rfl:k=y.devs.length:=by omega
  rw[devE_ok hj] at hE
  clear hj
  repeat refine uA ?_
  refine uW ?_
  refine awp_loopW (fun q:Nat×Nat=>⟨[(1, .ptO 101 1 0 0 0),(3,I ct),(9,I q.2)],(101,some (1, .box [.sl (nds y.nodes) false, .sl (t3s y.devs) false]))::[],q.1⟩) (fun q=>q.2<=y.devs.length/\∀j,j<q.2->dupK y.devs j=true) (fun q=>y.devs.length - q.2) (_,0) ⟨Nat.zero_le _,fun j hj=>absurd hj (Nat.not_lt_zero _)⟩ (uKF) ?_
  rintro⟨ck4,k⟩ ⟨hk,hj⟩
  simp only at hk hj
  repeat refine uA ?_
  refine uW ?_;refine condP _ rfl (fun h5=>?_) (fun h5=>?_)
  ·have hlt:k<y.devs.length:=by omega
   have hbad:dupK y.devs k=false->(List.range y.devs.length).all (dupK y.devs)=false:=range_all_false hlt
   have hgood:dupK y.devs k=true->∀j,j<k+1->dupK y.devs j=true:=fun h j hj'=>by
    by_cases hji:j=k
    ·subst hji;exact h
    ·exact hj j (by omega)
   repeat refine uA ?_
   refine uW ?_
   refine awp_loopW (fun q:Nat×Nat=>⟨[(1, .ptO 101 1 0 0 0),(3,I ct),(9,I k),(10,I q.2)],(101,some (1, .box [.sl (nds y.nodes) false, .sl (t3s y.devs) false]))::[],q.1⟩) (fun q=>q.2<=k/\∀j,j<q.2->eqT (y.devs.getD k default) (y.devs.getD j default)=false) (fun q=>k - q.2) (_,0) ⟨Nat.zero_le _,fun j hj=>absurd hj (Nat.not_lt_zero _)⟩ (uKF) ?_
   rintro⟨ck5,c⟩ ⟨hc,hjc⟩
   simp only at hc hjc
   repeat refine uA ?_
   refine uW ?_;refine condP _ rfl (fun h6=>?_) (fun h6=>?_)
   ·have hck:c<k:=by omega
    have hcl:c<y.devs.length:=by omega
    have hall:eqT (y.devs.getD k default) (y.devs.getD c default)=true->dupK y.devs k=false:=fun h=>by
     rw[dupK,Bool.not_eq_false',List.any_eq_true]
     refine⟨y.devs.getD c default,?_,h⟩
     have hcl2:c<(y.devs.take k).length:=by rw[List.length_take];omega
     have:(y.devs.take k).getD c default=y.devs.getD c default:=by
      simp only[List.getD_eq_getElem?_getD,List.getElem?_take]
      rw[if_pos hck]
     rw[<-this]
     exact mem_getD hcl2
    have hg2:eqT (y.devs.getD k default) (y.devs.getD c default)=false->∀j,j<c+1->eqT (y.devs.getD k default) (y.devs.getD j default)=false:=fun h j hj'=>by
     by_cases hji:j=c
     ·subst hji;exact h
     ·exact hjc j (by omega)
    have hT:eqT (y.devs.getD k default) (y.devs.getD c default)=_:=eqT.eq_1 _ _
    generalize eqT (y.devs.getD k default) (y.devs.getD c default)=tt at*
    generalize e2:y.devs.getD k default=d at*
    generalize e3:y.devs.getD c default=d' at*
    refine uE1 (uI (t3s_getD hlt) (uI @e2 (uI (t3s_getD hcl) (uI @e3 @hT.symm)))) ?_;intro K hK
    refine uH ?_
    refine hK _ ?_;clear hK K
    cases tt with
    |true=>
     rw[hbad (hall rfl)] at hE
     simp only[Bool.false_eq_true,if_false,Int.reduceEq,not_false_eq_true,if_true] at hE
     subst hE
     refine uT ?_
     repeat refine uA ?_
     (refine awp_ret (ret1 uRT ?_);try rfl)
    |false=>
     refine uF ?_
     repeat refine uA ?_
     refine⟨(_,c+1),⟨by simp only;omega,hg2 rfl⟩,by simp only;omega,uKF⟩
   ·refine awp_exit ?_
    obtain rfl:c=k:=by omega
    have hdk:dupK y.devs c=true:=by
     rw[dupK,Bool.not_eq_true',List.any_eq_false]
     intro z hz
     obtain⟨j,hj,rfl⟩:=List.getElem_of_mem hz
     have hjl:j<c:=by rw[List.length_take] at hj;omega
     have:=hjc j hjl
     rw[List.getElem_take]
     simpa[show j<y.devs.length by omega] using this
    repeat refine uA ?_
    refine⟨(_,c+1),⟨by simp only;omega,hgood hdk⟩,by simp only;omega,uKF⟩
  refine awp_exit ?_
  rw[if_pos (range_all_true fun j hj'=>hj j (by omega)),if_neg (by simp)] at hE
  repeat refine uA ?_
  refine uW ?_;refine condP _ rfl (fun c6=>?_) (fun c6=>?_)
  ·rw[decide_eq_false (show ¬¬ct=0 from fun h=>h (by omega)),if_pos rfl] at hE
   subst hE
   repeat refine uA ?_
   (refine awp_ret (ret1 uRT ?_);try rfl)
  ·rw[decide_eq_true (show ¬ct=0 from by omega),if_neg (by decide)] at hE
   subst hE
   repeat refine uA ?_
   (refine awp_ret (ret1 uRT ?_);try rfl)
def winR (y:Ly):Int:=if validE y=0 then total y.nodes else 0
theorem validE_nodes {y:Ly} (h:validE y=0):∀i,i<y.nodes.length->nodeE y.nodes.length i (y.nodes.getD i default)=0:=by
 rw[validE] at h
 split at h
 ·cases h
 ·split at h
  ·rename_i h2;exact absurd h h2
  ·rename_i h2
   have h2:nodesE y.nodes=0:=Decidable.byContradiction h2
   intro i
   induction i using Nat.strongRecOn with
   |_ i ih=>
    intro hi
    refine Decidable.byContradiction fun hb=>?_
    rw[nodesE_bad hi (fun j hj=>ih j hj (by omega)) hb] at h2
    exact hb h2
theorem winR_le {y:Ly} (hN:y.nodes.length<=1000):0<=winR y/\winR y<=80:=by
 unfold winR
 split
 ·rename_i h
  have hn:=validE_nodes h
  have h1:total y.nodes<=80:=by
   rw[validE] at h
   split at h
   ·cases h
   ·split at h
    ·rename_i h2;exact absurd h h2
    ·split at h
     ·cases h
     ·omega
  have:=(totL_le (fun i hi=>⟨(nodeE_len (hn i hi)).1,by have:=(nodeE_len (hn i hi)).2.1;omega⟩) _ (Nat.le_refl y.nodes.length)).1
  exact⟨this,h1⟩
 ·omega
theorem lwindows_sat (y:Ly) (hs:Sml7 y):SatG Tryz.prog tab 57 [] [y.av] [] (I (winR y)):=by
 have h1:=validate_sat y hs
 have h2:=fun h:validE y=0=>ltotal_sat y hs.n fun i hi=>⟨(nodeE_len (validE_nodes h i hi)).1,by have:=(nodeE_len (validE_nodes h i hi)).2.1;omega⟩
 unfold winR
 generalize validE y=v at*
 refine uFN Tryz.func57 Tryz.ntmps57 ?_;intro w e X hC
 refine uA ?_
 refine uR ?_;intro K hK
 refine callF uTS (h1) uTS uTS uTS ?_;refine uS ?_
 refine hK _ ?_;clear hK K
 refine uW ?_;refine condP _ rfl (fun c=>?_) (fun c=>?_)
 ·rw[if_neg c]
  repeat refine uA ?_
  (refine awp_ret (ret1 uRT ?_);try rfl)
 ·have c':=Decidable.byContradiction c
  have h3:=h2 c'
  rw[if_pos c']
  refine uR ?_;intro K hK
  refine callF uTS (h3) uTS uTS uTS ?_;refine uS ?_
  refine hK _ ?_;clear hK K
  (refine awp_ret (ret1 uRT ?_);try rfl)
theorem rorder_sat (y:Ly) (hs:Sml7 y) (hv:validE y=0):SatG Tryz.prog tab 92 [] [y.av] [] (IS (order y.nodes)):=by
 have h1:=rvalidate_sat y hs
 rw[hv] at h1
 have h2:=order7_sat y hs.n hs.x
 refine uFN Tryz.func92 Tryz.ntmps92 ?_;intro w e X hC
 refine uA ?_
 refine uR ?_;intro K hK
 refine callF uTS (h1) uTS uTS uTS ?_;refine uS ?_
 refine hK _ ?_;clear hK K
 refine uF ?_
 refine uR ?_;intro K hK
 refine callP uTS (h2) uTS uTS uTS ?_;refine uS ?_
 refine hK _ ?_;clear hK K
 (refine awp_ret (ret1 uRT ?_);try rfl)
def clampN (n:Int):Int:=max 0 (min n 40)
theorem pbound_sat (y:Ly) (n:Int) (hs:Sml7 y):SatG Tryz.prog tab 25 [] [y.av,I n] [] (I (clampN n*winR y)):=by
 have h1:=lwindows_sat y hs
 have h2:=winR_le hs.n
 generalize winR y=wv at*
 have hce:(if 40<(if n<0 then 0 else n) then 40 else if n<0 then 0 else n)=clampN n:=by unfold clampN;split<;>split at*<;>omega
 have hc:0<=clampN n/\clampN n<=40:=by unfold clampN;omega
 have hm1:0<=clampN n*wv/\clampN n*wv<=3200:=⟨Int.mul_nonneg hc.1 h2.1,by
  have:=Int.mul_le_mul hc.2 h2.2 h2.1 (by omega:(0:Int)<=40)
  omega⟩
 refine uFN Tryz.func25 Tryz.ntmps25 ?_;intro w e X hC
 refine uA ?_
 refine uR ?_;intro K hK
 refine callF uTS (h1) uTS uTS uTS ?_;refine uS ?_
 simp only[hce]
 refine uH ?_
 refine hK _ ?_;clear hK K
 (refine awp_ret (ret1 uRT ?_);try rfl)
open Go.Plant
theorem nmI_len:∀i,i<11->(bs (nmI i)).length<=1000:=by decide+kernel
structure GoodY (A n:Nat) (y:Ly):Prop where
 g:Good A n y
 d:devE y.nodes y.devs=0
 dl:y.devs.length<=24
theorem gL_good (l:List Int) (a:Nat):∃A n,GoodY A n (gL l a).1:=by
 obtain⟨A,n,h⟩:=gL_nodes l a
 refine⟨A,n,h,?_,?_⟩
 ·have hx:∀i,i<(gL l a).1.nodes.length->0<=((gL l a).1.nodes.getD i default).ln:=fun i hi=>by
   have hs:=h.shp i (by rw[<-h.len];exact hi)
   have h1:=hs.ln
   have h2:=hs.l0
   omega
  exact devE_zero hx
 ·exact dvN_len _
section
variable {A n:Nat} {y:Ly}
theorem GoodY.sml (h:GoodY A n y):Sml7 y:=by
 have hl:=h.g.len
 have hn:=h.g.n11
 refine⟨by omega,by have:=h.dl;omega,fun i hi=>?_,fun i hi=>?_⟩
 ·have:=h.g.exl (m:=i) (by omega)
  rw[exitsN] at this
  split at this
  ·omega
  ·split at this<;>omega
 ·rw[h.g.nm i (by omega)];exact nmI_len i (by omega)
theorem GoodY.val (h:GoodY A n y):validE y=0:=by
 have hl:=h.g.len
 have hn:=h.g.n11
 have hd:=h.dl
 have ht:=h.g.tot
 have h0:entB y.nodes=true:=by
  rw[entB,List.any_eq_true]
  refine⟨_,mem_getD (d:=default) (show 0<y.nodes.length by omega),?_⟩
  rw[decide_eq_true_eq]
  exact(h.g.shp 0 (by omega)).k1.2 rfl
 rw[validE,if_neg (by omega),nodesE_ok (fun j hj=>by rw[hl];exact h.g.node (by omega)),if_neg (by simp),if_neg (by omega),named_good h.g,if_neg (by decide),zonesB,range_all_true (fun i hi=>h.g.zoned (by omega)),if_neg (by decide),h.g.ord,upL_len,if_neg (by omega),h.d,if_neg (by simp),h0,if_neg (by decide)]
theorem GoodY.sum (h:GoodY A n y):y.nodes.length<=11/\0<y.nodes.length/\(∀i,i<y.nodes.length->0<=(y.nodes.getD i default).ln/\(y.nodes.getD i default).ln<=1000):=by
 have hl:=h.g.len
 have hn:=h.g.n11
 refine⟨by omega,by omega,fun i hi=>?_⟩
 have hs:=h.g.shp i (by omega)
 have h1:=hs.ln
 have h2:=hs.l0
 omega
theorem gstep_sat {p:Pl} {cs:List Int} {fs:List T3} {L:List Int} (h:GoodY A n y) (hx:Sx A n y p cs fs) (hi:PInv y p L) (hb:possR y.nodes cs fs=0):
  SatG Tryz.prog tab 16 [] [y.av,p.av,IS cs, .sl (t3s fs) false] [] (.tup [(stepY y p cs fs).1.av, .sl (t3s (stepY y p cs fs).2) false,I 0]):=by
 have hl:=h.g.len
 have hn:=h.g.n11
 have ho:=h.g.ord
 have e:=hx.eq
 refine pstep_ok y p cs fs h.sml h.val h.g.ex hx.fp hb (by omega) (by rw[hx.cl,hl]) hx.ff (fun m hm h0=>(wnt_ok hx (by omega) h0).1) (by rw[ho,upL_len];omega) (fun i hi=>?_) (LVo y p cs fs) (flows y.nodes p (wnts y.nodes p cs fs y.nodes.length) (order y.nodes)).2 e.len (goes_lv hx) hi.srt ?_
 ·rw[ho] at hi ⊢
  rw[upL_len] at hi
  rw[upL_getD hi]
  omega
 ·rw[ho,<-hl]
  rfl
end
open Go.Plant
theorem cut2_fits {l:List Int} (hr:∀x∈l,I64 x):Fits (cut2 l):=⟨by rw[cut2,List.length_take];omega,fun x hx=>hr x (List.mem_of_mem_take hx)⟩
open Go.Plant
section
variable {A n:Nat} {y:Ly} {p:Pl} {cs:List Int} {fs:List T3}
theorem flows10_bad (y:Ly) (p:Pl) (cs:List Int) (fs:List T3) (hy:y.nodes.length<=1000) (hcs:cs.length<=1000) (hfs:fs.length<=1000) (hex:∀n,n<y.nodes.length->(y.nodes.getD n default).ex.length<=500) (hb:possR y.nodes cs fs≠0):
  SatG Tryz.prog tab 50 [] [y.av,p.av,IS cs, .sl (t3s fs) false] [] (.tup [.agg [.sl [] false, .sl [] false],I (possR y.nodes cs fs)]):=by
 have h1:=possible_sat y cs fs hy hcs hfs hex
 generalize possR y.nodes cs fs=er at*
 have d1:decide (¬er=0)=true:=decide_eq_true hb
 refine uFN Tryz.func50 Tryz.ntmps50 ?_;intro w e X hC
 refine uA ?_
 refine uR ?_;intro K hK
 refine callF uTS (h1) uTS uTS uTS ?_;refine uS ?_
 refine hK _ ?_;clear hK K
 refine uA1 @d1 ?_
 refine uT ?_
 repeat refine uA ?_
 refine awp_ret ?_;rw[show Tryz.f50.results.toList=[.cell 8 87, .tmp 9] from rfl];first|refine uRN ?_|exact uRM
set_option maxHeartbeats 2000000 in
theorem flows10_ok (h:Sx A n y p cs fs) (hd:dupF fs=false) (hpos:∀t,t<n->∀b∈p.bins.getD t [],b≠0) (hsm:Sml7 y) (hv:validE y=0) (hfs:fs.length<=1000) (hb:possR y.nodes cs fs=0):
  SatG Tryz.prog tab 50 [] [y.av,p.av,IS cs, .sl (t3s fs) false] [] (.tup [.agg [IS (flows y.nodes p (WN y p cs fs) (upL y.nodes.length)).1,IS (flows y.nodes p (WN y p cs fs) (upL y.nodes.length)).2],I 0]):=by
 have hgl:=h.good.len
 have hn:=h.good.n11
 have hcl:=h.cl
 have h1:=possible_sat y cs fs (by omega) (by omega) hfs h.fp.ex
 rw[hb] at h1
 have h2:=entrances_sat y p h.fp
 have h3:=rorder_sat y hsm hv
 rw[h.good.ord,<-hgl] at h3
 have hul:=upL_len y.nodes.length
 have hn0:ints (negs (0+1))=[.lit (.int .i64 (-1))]:=rfl
 have hel:=entR_length y.nodes p y.nodes.length
 refine uFN Tryz.func50 Tryz.ntmps50 ?_;intro w e X hC
 refine uA ?_
 refine uR ?_;intro K hK
 refine callF uTS (h1) uTS uTS uTS ?_;refine uS ?_
 refine hK _ ?_;clear hK K
 refine uA ?_
 refine uF ?_
 iterate 2 refine uA ?_
 refine awp_merge (fun q:Nat×Nat×Nat=>⟨[(2,IS cs),(3, .sl (t3s fs) false),(4, .ptO 104 1 0 0 0),(5, .ptO 105 2 0 0 0),(8, .ptO 108 3 0 0 0),(11, .ptO 111 12 0 0 0)],(111,some (12, .box [.slO 137 q.2.1 0 y.nodes.length, .slO 141 q.2.2 0 y.nodes.length]))::(137,some (q.2.1, .own 3 1 (ints (negs y.nodes.length))))::(141,some (q.2.2, .own 3 1 (ints (negs y.nodes.length))))::(104,some (1, .box [.sl (nds y.nodes) false, .sl (t3s y.devs) false]))::(105,some (2, .box [RS p.slots,RS p.bins]))::(108,some (3, .box [.sl [] true, .sl [] true]))::[],q.1⟩) (fun _=>True) ?_ ?_
 ·refine uW ?_
  refine awp_loopW (fun i:Nat×Nat×Nat×Nat=>⟨[(2,IS cs),(3, .sl (t3s fs) false),(4, .ptO 104 1 0 0 0),(5, .ptO 105 2 0 0 0),(8, .ptO 108 3 0 0 0),(11, .ptO 111 12 0 0 0),(12,I i.2.1)],(111,some (12, .box [nilC i.2.1 (.slO 137 i.2.2.1 0 i.2.1),nilC i.2.1 (.slO 141 i.2.2.2 0 i.2.1)]))::(137,nilH i.2.1 (i.2.2.1, .own 3 1 (ints (negs i.2.1))))::(141,nilH i.2.1 (i.2.2.2, .own 3 1 (ints (negs i.2.1))))::(104,some (1, .box [.sl (nds y.nodes) false, .sl (t3s y.devs) false]))::(105,some (2, .box [RS p.slots,RS p.bins]))::(108,some (3, .box [.sl [] true, .sl [] true]))::[],i.1⟩) (fun i=>i.2.1<=y.nodes.length) (fun i=>y.nodes.length - i.2.1) (_,0,0,0) (Nat.zero_le _) (.of (Nat.le_refl _) (uHF1 (uI @nilC_z @nilH_z)) uWF) ?_
  rintro⟨ck,i,g1,g2⟩ hi
  simp only at hi
  have hnl:=negs_len i
  have e1:=negs_succ i
  generalize e9:negs i=ng at*
  refine uA ?_
  refine uW ?_;refine condP _ rfl (fun h0=>?_) (fun h0=>?_)
  ·have hlt:i<y.nodes.length:=by omega
   by_cases hi0:i=0
   ·subst hi0
    simp only[nilC_z,nilH_z]
    refine uD ?_;intro K hK
    refine uH ?_
    refine hK _ ?_;clear hK K
    repeat refine uA ?_
    refine⟨(_,0+1,ck+8,ck+12),by simp only;omega,by simp only;omega, .of (Nat.le_refl _) (uHF1 (uI @hn0 (uI @nilC_s @nilH_s))) uWF⟩
   ·simp only[nilC_p hi0,nilH_p hi0]
    refine uD1 @hnl ?_;intro K hK
    refine uH ?_
    refine hK _ ?_;clear hK K
    repeat refine uA ?_
    refine⟨(_,i+1,g1,g2),by simp only;omega,by simp only;omega, .of (Nat.le_refl _) (uHF1 (uI @e1 (uI @nilC_s @nilH_s))) uWF⟩
  ·refine awp_exit ?_
   have hie:i=y.nodes.length:=by omega
   rw[hie] at e9 hnl
   rw[hie]
   simp only[nilC_p (show y.nodes.length≠0 by omega),nilH_p (show y.nodes.length≠0 by omega)]
   repeat refine uA ?_
   refine⟨(_,g1,g2),trivial, .of (Nat.le_refl _) (uHF1 @e9) uWF⟩
 ·rintro⟨ck1,ga,gb⟩ -
  refine uR ?_;intro K hK
  have z:=(uI @Bool.or_true (uI @Bool.true_or @Bool.false_or));refine callE [] [(146,ck1+2,100,1)] false (h2) (uTR1 z) (uTR1 z) (uTE1 z) (uTE1 z) (uTE1 z) (uTE1 z) (uTE1 z) (uTE1 z) (uTE1 z) (uTE1 z) (uTE1 z) (uTE1 z) (uTE1 z) (uTE1 z) (uTE1 z) (uTE1 z) (uTE1 z) ?_;refine uQS1 z ?_;clear z
  refine hK _ ?_;clear hK K
  refine uR ?_;intro K hK
  refine callP uTS (h3) uTS uTS uTS ?_;refine uS ?_
  refine hK _ ?_;clear hK K
  refine uA1 @hul ?_
  obtain⟨gm,hgm⟩:∃g,g=ck1+2:=⟨_,rfl⟩
  rw[<-hgm]
  have hW:=h.ups
  have hcl2:cs.length=y.nodes.length:=by omega
  have hent:=fun(j:Nat) (hj:j<y.nodes.length)=>entR_getD y.nodes p hj
  have hz:flF y.nodes p (WN y p cs fs) (upL y.nodes.length) 0=(negs y.nodes.length,negs y.nodes.length):=rfl
  have hz1:(flF y.nodes p (WN y p cs fs) (upL y.nodes.length) 0).1=negs y.nodes.length:=rfl
  have hz2:(flF y.nodes p (WN y p cs fs) (upL y.nodes.length) 0).2=negs y.nodes.length:=rfl
  have e0:(y.nodes.length:Int) - 1 - ((0:Nat):Int)=(y.nodes.length:Int) - 1:=by omega
  refine uW ?_
  refine awp_loopW (fun q:Nat×Nat×List Bool=>⟨[(2,IS cs),(3, .sl (t3s fs) false),(4, .ptO 104 1 0 0 0),(5, .ptO 105 2 0 0 0),(8, .ptO 108 3 0 0 0),(11, .ptO 111 12 0 0 0),(13, .slO 146 gm 0 y.nodes.length),(14,IS (upL y.nodes.length)),(15,I ((y.nodes.length:Int) - 1 - q.2.1))],(111,some (12, .box [.slO 137 ga 0 y.nodes.length, .slO 141 gb 0 y.nodes.length]))::(137,some (ga, .own 3 1 (ints (flF y.nodes p (WN y p cs fs) (upL y.nodes.length) q.2.1).1)))::(141,some (gb, .own 3 1 (ints (flF y.nodes p (WN y p cs fs) (upL y.nodes.length) q.2.1).2)))::(146,some (gm, .own 4 1 (bls q.2.2)))::(104,some (1, .box [.sl (nds y.nodes) false, .sl (t3s y.devs) false]))::(105,some (2, .box [RS p.slots,RS p.bins]))::(108,some (3, .box [.sl [] true, .sl [] true]))::[],q.1⟩)
   (fun q=>q.2.1<=y.nodes.length/\q.2.2.length=y.nodes.length/\∀j,j<y.nodes.length - q.2.1->q.2.2.getD j false=openR (y.nodes.getD j default) (p.slots.getD j [])) (fun q=>y.nodes.length - q.2.1) (_,0,entR y.nodes p y.nodes.length) ⟨Nat.zero_le _,hel,fun j hj=>hent j (by simpa using hj)⟩ (.of (Nat.le_refl _) (uHF1 (uI @hz1 @hz2)) (uWF1 @e0)) ?_
  rintro⟨ck,c,op⟩ ⟨hc,hol,hop⟩
  simp only at hc hol hop
  refine uA ?_
  refine uW ?_;refine condP _ rfl (fun h9=>?_) (fun h9=>?_)
  ·have hlt:c<y.nodes.length:=by omega
   obtain⟨t,ht⟩:∃t:Nat,t=y.nodes.length - 1 - c:=⟨_,rfl⟩
   have htt:(y.nodes.length:Int) - 1 - c=(t:Int):=by omega
   have hti:t<y.nodes.length:=by omega
   have htu:t<(upL y.nodes.length).length:=by omega
   have hug:=upL_getD hti
   have hib:=inv_before hW hc (p:=p)
   rw[show y.nodes.length - c=t+1 by omega] at hib
   have hlb:=lv_before hW hti hib
   have hopt:=hop t (by omega)
   have hop':∀j,j<y.nodes.length - (c+1)->op.getD j false=openR (y.nodes.getD j default) (p.slots.getD j []):=fun j hj=>hop j (by omega)
   obtain⟨hl1,hl2⟩:=flF_len (xs:=y.nodes) (p:=p) (W:=WN y p cs fs) (ord:=upL y.nodes.length) c
   have hF:flF y.nodes p (WN y p cs fs) (upL y.nodes.length) (c+1)=flS y.nodes p (WN y p cs fs) t (flF y.nodes p (WN y p cs fs) (upL y.nodes.length) c):=by
    rw[flF,upL_len,<-ht,upL_getD hti,Int.toNat_natCast]
   generalize flF y.nodes p (WN y p cs fs) (upL y.nodes.length) c=F at*
   obtain⟨lv,en⟩:=F
   simp only at hl1 hl2 hib hlb
   simp only[htt]
   clear hop hz hz1 hz2 e0 htt
   refine awp_skip ?_
   refine awp_seq ?_
   refine awp_merge (fun q:Nat×List Bool=>⟨[(2,IS cs),(3, .sl (t3s fs) false),(4, .ptO 104 1 0 0 0),(5, .ptO 105 2 0 0 0),(8, .ptO 108 3 0 0 0),(11, .ptO 111 12 0 0 0),(13, .slO 146 gm 0 y.nodes.length),(14,IS (upL y.nodes.length)),(15,I t)],(111,some (12, .box [.slO 137 ga 0 y.nodes.length, .slO 141 gb 0 y.nodes.length]))::(137,some (ga, .own 3 1 (ints (flF y.nodes p (WN y p cs fs) (upL y.nodes.length) (c+1)).1)))::(141,some (gb, .own 3 1 (ints (flF y.nodes p (WN y p cs fs) (upL y.nodes.length) (c+1)).2)))::(146,some (gm, .own 4 1 (bls q.2)))::(104,some (1, .box [.sl (nds y.nodes) false, .sl (t3s y.devs) false]))::(105,some (2, .box [RS p.slots,RS p.bins]))::(108,some (3, .box [.sl [] true, .sl [] true]))::[],q.1⟩) (fun q=>q.2.length=y.nodes.length/\∀j,j<y.nodes.length - (c+1)->q.2.getD j false=openR (y.nodes.getD j default) (p.slots.getD j [])) ?_ ?_
   ·generalize e2:y.nodes.getD t default=x at*
    iterate 2 refine uA1 (uI @hul (uI (ints_getD htu) (uI @hug (uI (nds_getD hti) @e2)))) ?_
    obtain⟨gx,hgx⟩:∃g,g=ck+12:=⟨_,rfl⟩
    rw[<-hgx]
    clear hgx hgm
    have hls:=last_sat y p cs fs t h.fp h.ff hti hcl2
    have htn:t<n:=by omega
    have htj:∀j,j<y.nodes.length - (c+1)->t≠j:=fun j hj=>by omega
    rw[e2] at hls
    have hrt:=h.fp.row t hti
    have hst:=h.fp.st t hti
    have hps:=h.fp.sl
    rw[e2] at hrt hst
    have htp:t<p.slots.length:=by omega
    have h0s:isStrip x.kd=true->0<(p.slots.getD t []).length:=fun h=>by have:=hst h;omega
    have htl:t<lv.length:=by omega
    have hli:=(last_iff h hd hpos htn).1
    rw[e2] at hli
    generalize lastR x (p.slots.getD t []) (p.bins.getD t []) (cs.getD t 0) fs t=r at*
    generalize e3:p.slots.getD t []=sl at*
    obtain⟨ar,har⟩:∃b,b=arnd x sl ((WN y p cs fs).getD t 0) (lv.getD t 0):=⟨_,rfl⟩
    obtain⟨lv1,hlv1⟩:∃l,l=if ar=true then lv.set t 0 else lv:=⟨_,rfl⟩
    have hll:lv1.length=y.nodes.length:=by rw[hlv1];split<;>simp[hl1]
    have hFF:flF y.nodes p (WN y p cs fs) (upL y.nodes.length) (c+1)=if isStrip x.kd=false then(tzR (WN y p cs fs) (comN y.nodes (WN y p cs fs) t (WN y p cs fs).length) (comN y.nodes (WN y p cs fs) t (WN y p cs fs).length) lv1,en) else if comN y.nodes (WN y p cs fs) t (WN y p cs fs).length≠0/\openR x sl=true/\ar=false then(lv1.set (tz 11 (comN y.nodes (WN y p cs fs) t (WN y p cs fs).length)) ((WN y p cs fs).getD (tz 11 (comN y.nodes (WN y p cs fs) t (WN y p cs fs).length)) 0),en.set t (tz 11 (comN y.nodes (WN y p cs fs) t (WN y p cs fs).length))) else(lv1,en):=by
     rw[hF,flS,e2,e3,hlv1,har]
    clear hF
    have hs5:x.kd=5->isStrip x.kd=true:=fun h5=>by rw[h5];decide
    have hz5:x.kd=5->(lv1.getD t 0=0↔ar=true):=fun h5=>by
     rw[hlv1]
     cases ar with
     |true=>rw[if_pos rfl,getD_set2,if_pos ⟨rfl,htl⟩];simp
     |false=>rw[if_neg (by simp)];exact⟨fun h0=>absurd h0 (hlb.2 h5),fun h0=>by cases h0⟩
    refine awp_seq ?_
    refine awp_merge (fun q:Nat=>⟨[(2,IS cs),(3, .sl (t3s fs) false),(4, .ptO 104 1 0 0 0),(5, .ptO 105 2 0 0 0),(8, .ptO 108 3 0 0 0),(11, .ptO 111 12 0 0 0),(13, .slO 146 gm 0 y.nodes.length),(14,IS (upL y.nodes.length)),(15,I t),(16,I t),(17, .ptO 117 gx 0 0 0)],(117,some (gx, .box [S x.nm,I x.kd,I x.ln,I x.zn,IS x.ex]))::(111,some (12, .box [.slO 137 ga 0 y.nodes.length, .slO 141 gb 0 y.nodes.length]))::(137,some (ga, .own 3 1 (ints lv1)))::(141,some (gb, .own 3 1 (ints en)))::(146,some (gm, .own 4 1 (bls op)))::(104,some (1, .box [.sl (nds y.nodes) false, .sl (t3s y.devs) false]))::(105,some (2, .box [RS p.slots,RS p.bins]))::(108,some (3, .box [.sl [] true, .sl [] true]))::[],q⟩) (fun _=>True) ?_ ?_
    ·by_cases c5:x.kd=5
     ·have d5:decide (x.kd=5)=true:=decide_eq_true c5
      have h0l:0<sl.length:=h0s (hs5 c5)
      by_cases cl:0<=(WN y p cs fs).getD t 0
      ·have dr:decide (¬r=0)=true:=decide_eq_true (hli.2 cl)
       by_cases cv:lv.getD t 0=-1
       ·have dv:decide (lv.getD t 0=-1)=true:=decide_eq_true cv
        by_cases cz:sl.getD 0 0=0
        ·have dz:decide (sl.getD 0 0=0)=true:=decide_eq_true cz
         have ha:ar=true:=by rw[har,arnd,d5,dz,decide_eq_true cl,decide_eq_true (show lv.getD t 0<0 by rw[cv];decide)];rfl
         rw[ha,if_pos rfl] at hlv1
         refine uR1 (uI @d5 (uI @dr (uI @dv (uI @dz (uI (ints_getD htl) (uI (ints_getD h0l) (uI (rows_getD htp) (uI @e3 @hl1)))))))) ?_;intro K hK
         refine callF uTS (hls) uTS uTS uTS ?_;refine uS ?_
         first|refine uS1 (uI @d5 (uI @dr (uI @dv (uI @dz (uI (ints_getD htl) (uI (ints_getD h0l) (uI (rows_getD htp) (uI @e3 (uI @hl1 @Int.toNat_zero))))))))) ?_|exact uX1 (uI @d5 (uI @dr (uI @dv (uI @dz (uI (ints_getD htl) (uI (ints_getD h0l) (uI (rows_getD htp) (uI @e3 (uI @hl1 @Int.toNat_zero)))))))))
         refine uH ?_
         refine hK _ ?_;clear hK K
         refine uT ?_
         repeat refine uA1 @hl1 ?_
         refine⟨_,trivial, .of (Nat.le_refl _) (uHF1 @hlv1) uWF⟩
        ·have dz:decide (sl.getD 0 0=0)=false:=decide_eq_false cz
         have ha:ar=false:=by rw[har,arnd,dz];simp
         rw[ha,if_neg (by simp)] at hlv1
         refine uR1 (uI @d5 (uI @dr (uI @dv (uI @dz (uI (ints_getD htl) (uI (ints_getD h0l) (uI (rows_getD htp) (uI @e3 @hl1)))))))) ?_;intro K hK
         refine callF uTS (hls) uTS uTS uTS ?_;refine uS ?_
         first|refine uS1 (uI @d5 (uI @dr (uI @dv (uI @dz (uI (ints_getD htl) (uI (ints_getD h0l) (uI (rows_getD htp) (uI @e3 (uI @hl1 @Int.toNat_zero))))))))) ?_|exact uX1 (uI @d5 (uI @dr (uI @dv (uI @dz (uI (ints_getD htl) (uI (ints_getD h0l) (uI (rows_getD htp) (uI @e3 (uI @hl1 @Int.toNat_zero)))))))))
         refine uH ?_
         refine hK _ ?_;clear hK K
         refine uF ?_
         refine uW ?_
         refine⟨_,trivial, .of (Nat.le_refl _) (uHF1 @hlv1) uWF⟩
       ·have dv:decide (lv.getD t 0=-1)=false:=decide_eq_false cv
        have ha:ar=false:=by rw[har,arnd,decide_eq_false (p:=lv.getD t 0<0) (fun hlt=>by rcases hlb.1 with h1|h1;exact cv h1;exact absurd hlt (Int.not_lt.2 h1))];simp
        rw[ha,if_neg (by simp)] at hlv1
        refine uR1 (uI @d5 (uI @dr (uI @dv (uI (ints_getD htl) @hl1)))) ?_;intro K hK
        refine callF uTS (hls) uTS uTS uTS ?_;refine uS ?_
        first|refine uS1 (uI @d5 (uI @dr (uI @dv (uI (ints_getD htl) @hl1)))) ?_|exact uX1 (uI @d5 (uI @dr (uI @dv (uI (ints_getD htl) @hl1))))
        refine uH ?_
        refine hK _ ?_;clear hK K
        refine uF ?_
        refine uW ?_
        refine⟨_,trivial, .of (Nat.le_refl _) (uHF1 @hlv1) uWF⟩
      ·have dr:decide (¬r=0)=false:=decide_eq_false (fun h=>cl (hli.1 h))
       have ha:ar=false:=by rw[har,arnd,decide_eq_false cl];simp
       rw[ha,if_neg (by simp)] at hlv1
       refine uR1 (uI @d5 @dr) ?_;intro K hK
       refine callF uTS (hls) uTS uTS uTS ?_;refine uS ?_
       first|refine uS1 (uI @d5 @dr) ?_|exact uX1 (uI @d5 @dr)
       refine uH ?_
       refine hK _ ?_;clear hK K
       refine uF ?_
       refine uW ?_
       refine⟨_,trivial, .of (Nat.le_refl _) (uHF1 @hlv1) uWF⟩
     ·have d5:decide (x.kd=5)=false:=decide_eq_false c5
      have ha:ar=false:=by rw[har,arnd,d5];rfl
      rw[ha,if_neg (by simp)] at hlv1
      refine uR1 @d5 ?_;intro K hK
      refine hK _ ?_;clear hK K
      refine uF ?_
      refine uW ?_
      refine⟨_,trivial, .of (Nat.le_refl _) (uHF1 @hlv1) uWF⟩
    ·rintro ck2 -
     clear hls hlv1 hlb hli h0s
     obtain⟨op1,hop1⟩:∃l,l=if ar=true then op.set t false else op:=⟨_,rfl⟩
     have hol1:op1.length=y.nodes.length:=by rw[hop1];split<;>simp[hol]
     have hto:t<op.length:=by rw[hol];exact hti
     have ho1:op1.getD t false=(!ar&&openR x sl):=by
      rw[hop1]
      cases ar with
      |true=>rw[if_pos rfl,getD_set2,if_pos ⟨rfl,hto⟩];rfl
      |false=>rw[if_neg (by simp)];rw[hopt];rfl
     have ho2:∀j,j<y.nodes.length - (c+1)->op1.getD j false=openR (y.nodes.getD j default) (p.slots.getD j []):=fun j hj=>by
      rw[<-hop' j hj,hop1]
      split
      ·rw[getD_set2,if_neg (fun h=>htj j hj h.1)]
      ·rfl
     have htl1:t<lv1.length:=by rw[hll];exact hti
     refine awp_seq ?_
     refine awp_merge (fun q:Nat=>⟨[(2,IS cs),(3, .sl (t3s fs) false),(4, .ptO 104 1 0 0 0),(5, .ptO 105 2 0 0 0),(8, .ptO 108 3 0 0 0),(11, .ptO 111 12 0 0 0),(13, .slO 146 gm 0 y.nodes.length),(14,IS (upL y.nodes.length)),(15,I t),(16,I t),(17, .ptO 117 gx 0 0 0)],(117,some (gx, .box [S x.nm,I x.kd,I x.ln,I x.zn,IS x.ex]))::(111,some (12, .box [.slO 137 ga 0 y.nodes.length, .slO 141 gb 0 y.nodes.length]))::(137,some (ga, .own 3 1 (ints lv1)))::(141,some (gb, .own 3 1 (ints en)))::(146,some (gm, .own 4 1 (bls op1)))::(104,some (1, .box [.sl (nds y.nodes) false, .sl (t3s y.devs) false]))::(105,some (2, .box [RS p.slots,RS p.bins]))::(108,some (3, .box [.sl [] true, .sl [] true]))::[],q⟩) (fun _=>True) ?_ ?_
     ·by_cases c5:x.kd=5
      ·have d5:decide (x.kd=5)=true:=decide_eq_true c5
       have hz5:=hz5 c5
       by_cases ca:ar=true
       ·have dz:decide (lv1.getD t 0=0)=true:=decide_eq_true (hz5.2 ca)
        rw[ca,if_pos rfl] at hop1
        refine uR1 (uI @d5 (uI @dz (uI (ints_getD htl1) @hll))) ?_;intro K hK
        refine uH ?_
        refine hK _ ?_;clear hK K
        refine uT ?_
        repeat refine uA1 @hol ?_
        refine⟨_,trivial, .of (Nat.le_refl _) (uHF1 @hop1) uWF⟩
       ·have dz:decide (lv1.getD t 0=0)=false:=decide_eq_false (fun h=>ca (hz5.1 h))
        rw[if_neg ca] at hop1
        refine uR1 (uI @d5 (uI @dz (uI (ints_getD htl1) @hll))) ?_;intro K hK
        refine uH ?_
        refine hK _ ?_;clear hK K
        refine uF ?_
        refine uW ?_
        refine⟨_,trivial, .of (Nat.le_refl _) (uHF1 @hop1) uWF⟩
      ·have d5:decide (x.kd=5)=false:=decide_eq_false c5
       have ca:¬ar=true:=by rw[har,arnd,d5];simp
       rw[if_neg ca] at hop1
       refine uR1 @d5 ?_;intro K hK
       refine hK _ ?_;clear hK K
       refine uF ?_
       refine uW ?_
       refine⟨_,trivial, .of (Nat.le_refl _) (uHF1 @hop1) uWF⟩
     ·rintro ck3 -
      clear hz5 hopt hop' hop1
      have hlsk:=fun(k:Nat) (hk:k<y.nodes.length)=>last_sat y p cs fs k h.fp h.ff hk hcl2
      have hlik:=fun(k:Nat) (hk:k<n)=>last_iff h hd hpos hk
      have hwnk:=fun(k:Nat) (hk:k<y.nodes.length)=>wants_sat y cs k hk (by omega) (by omega) (by omega)
      have hwok:=fun(k:Nat) (hk:k<n) (h0:0<=(WN y p cs fs).getD k 0)=>(wnt_ok h hk h0).1
      have hwl:=hW.wl
      have h11:=hW.n11
      have hexk:=h.fp.ex
      have hup:=upto_all (t:=t) h11 hwl hll
      have hto1:t<op1.length:=by rw[hol1];exact hti
      have hln2:en.length=y.nodes.length:=hl2
      have hten:t<en.length:=by rw[hl2];exact hti
      have hns:isStrip x.kd=false->op1.getD t false=true:=fun hs=>by
       rw[ho1,openR,if_neg (by rw[hs];simp),har,arnd,decide_eq_false (fun h5=>by rw[hs5 h5] at hs;cases hs)];rfl
      have hob:isStrip x.kd=true->op1.getD t false=false->¬(comN y.nodes (WN y p cs fs) t (WN y p cs fs).length≠0/\openR x sl=true/\ar=false):=fun _ hb hc=>by
       rw[ho1,hc.2.1,hc.2.2] at hb;cases hb
      have hob2:op1.getD t false=true->openR x sl=true/\ar=false:=fun hb=>by
       rw[ho1] at hb
       cases ar<;>simp at hb
       exact⟨hb,rfl⟩
      clear ho1 har
      generalize hbo:op1.getD t false=ob at*
      refine uA ?_
      refine uW ?_
      refine awp_loopW (fun q:Nat×Nat×List Int=>⟨[(2,IS cs),(3, .sl (t3s fs) false),(4, .ptO 104 1 0 0 0),(5, .ptO 105 2 0 0 0),(8, .ptO 108 3 0 0 0),(11, .ptO 111 12 0 0 0),(13, .slO 146 gm 0 y.nodes.length),(14,IS (upL y.nodes.length)),(15,I t),(16,I t),(17, .ptO 117 gx 0 0 0),(18,I q.2.1)],(117,some (gx, .box [S x.nm,I x.kd,I x.ln,I x.zn,IS x.ex]))::(111,some (12, .box [.slO 137 ga 0 y.nodes.length, .slO 141 gb 0 y.nodes.length]))::(137,some (ga, .own 3 1 (ints q.2.2)))::(141,some (gb, .own 3 1 (ints en)))::(146,some (gm, .own 4 1 (bls op1)))::(104,some (1, .box [.sl (nds y.nodes) false, .sl (t3s y.devs) false]))::(105,some (2, .box [RS p.slots,RS p.bins]))::(108,some (3, .box [.sl [] true, .sl [] true]))::[],q.1⟩)
       (fun q=>q.2.1<=y.nodes.length/\q.2.2.length=y.nodes.length/\(isStrip x.kd=true->q.2.2=lv1/\∀j,j<q.2.1->cmr y.nodes (WN y p cs fs) t j=false)/\(isStrip x.kd=false->q.2.2=upto y.nodes (WN y p cs fs) t lv1 q.2.1)) (fun q=>y.nodes.length - q.2.1) (_,0,lv1) ⟨Nat.zero_le _,hll,fun _=>⟨rfl,fun j hj=>absurd hj (Nat.not_lt_zero _)⟩,fun _=>rfl⟩ (uKF) ?_
      rintro⟨ck4,k,lk⟩ ⟨hk,hlkl,hk1,hk2⟩
      simp only at hk hlkl hk1 hk2
      by_cases hkN:k<y.nodes.length
      ·have dk:decide ((k:Int)<y.nodes.length)=true:=decide_eq_true (by omega)
       cases ob with
       |false=>
        refine uR1 (uI @dk (uI (bls_getD hto1) (uI @hol1 @hbo))) ?_;intro K hK
        refine uH ?_
        refine hK _ ?_;clear hK K
        refine uF ?_
        refine awp_exit ?_
        have hs:isStrip x.kd=true:=by
         cases hs:isStrip x.kd with
         |true=>rfl
         |false=>have:=hns hs;cases this
        obtain⟨rfl,_⟩:=hk1 hs
        rw[if_neg (by rw[hs];simp),if_neg (hob hs rfl)] at hFF
        have hf1:=congrArg Prod.fst hFF
        have hf2:=congrArg Prod.snd hFF
        simp only at hf1 hf2
        refine⟨(_,op1),⟨hol1,ho2⟩, .of (Nat.le_refl _) (uHF1 (uI @hf1 @hf2)) uWF⟩
       |true=>
        obtain⟨hb1,hb2⟩:=hob2 rfl
        refine uR1 (uI @dk (uI (bls_getD hto1) (uI @hol1 @hbo))) ?_;intro K hK
        refine uH ?_
        refine hK _ ?_;clear hK K
        refine uT ?_
        have hskip:cmr y.nodes (WN y p cs fs) t k=false->(isStrip x.kd=true->lk=lv1/\∀j,j<k+1->cmr y.nodes (WN y p cs fs) t j=false)/\(isStrip x.kd=false->lk=upto y.nodes (WN y p cs fs) t lv1 (k+1)):=fun hc=>by
         refine⟨fun hs=>⟨(hk1 hs).1,fun j hj=>?_⟩,fun hs=>?_⟩
         ·by_cases hjk:j=k
          ·subst hjk;exact hc
          ·exact(hk1 hs).2 j (Nat.lt_of_le_of_ne (Nat.le_of_lt_succ hj) hjk)
         ·rw[upto,if_neg (by rw[hc];simp)];exact hk2 hs
        by_cases hkt:k=t
        ·have hc:cmr y.nodes (WN y p cs fs) t k=false:=by rw[cmr,decide_eq_false (fun h=>h hkt)];rfl
         have d1:decide ((k:Int)=t)=true:=decide_eq_true (by rw[hkt])
         refine uE1 @d1 ?_;intro K hK
         refine hK _ ?_;clear hK K
         refine uT ?_
         refine awp_exit ?_
         repeat refine uA ?_
         refine⟨(_,k+1,lk),⟨hkN,hlkl,hskip hc⟩,Nat.sub_lt_sub_left hkN (Nat.lt_succ_self k),uKF⟩
        ·have d1:decide ((k:Int)=t)=false:=decide_eq_false (fun h=>hkt (Int.ofNat.inj h))
         have hknn:k<n:=hgl ▸ hkN
         have hlk:=hlsk k hkN
         have hwk:=hwnk k hkN
         obtain⟨hik,hwe⟩:=hlik k hknn
         have hwo:=hwok k hknn
         have hxk:=hexk k hkN
         have hcd:cmr y.nodes (WN y p cs fs) t k=(decide (0<=(WN y p cs fs).getD k 0)&&decide ((y.nodes.getD k default).ex.getD ((WN y p cs fs).getD k 0).toNat 0=t)):=by rw[cmr,decide_eq_true (show k≠t from hkt),Bool.true_and]
         generalize e8:y.nodes.getD k default=z at*
         generalize lastR z (p.slots.getD k []) (p.bins.getD k []) (cs.getD k 0) fs k=r2 at*
         by_cases hr2:r2=0
         ·have hc:cmr y.nodes (WN y p cs fs) t k=false:=by rw[hcd,decide_eq_false (fun h0=>(hik.2 h0) hr2)];rfl
          have d2:decide (r2=0)=true:=decide_eq_true hr2
          refine uE1 @d1 ?_;intro K hK
          refine callF uTS (hlk) uTS uTS uTS ?_;refine uS ?_
          first|refine uS1 @d2 ?_|exact uX1 @d2
          refine hK _ ?_;clear hK K
          refine uT ?_
          refine awp_exit ?_
          repeat refine uA ?_
          refine⟨(_,k+1,lk),⟨hkN,hlkl,hskip hc⟩,Nat.sub_lt_sub_left hkN (Nat.lt_succ_self k),uKF⟩
         ·have h0w:=hik.1 hr2
          have d2:decide (r2=0)=false:=decide_eq_false hr2
          rw[<-hwe h0w] at hwk
          have hwo:=hwo h0w
          obtain⟨w0,hw0⟩:∃w:Nat,(WN y p cs fs).getD k 0=w:=⟨((WN y p cs fs).getD k 0).toNat,(Int.toNat_of_nonneg h0w).symm⟩
          rw[hw0] at hwk hwo hcd
          rw[decide_eq_true (Int.natCast_nonneg w0),Bool.true_and,Int.toNat_natCast] at hcd
          have hwo:w0<z.ex.length:=Int.ofNat_lt.1 hwo
          by_cases hxt:z.ex.getD w0 0=t
          ·rw[decide_eq_true hxt] at hcd
           have d3:decide (¬z.ex.getD w0 0=(t:Int))=false:=decide_eq_false (fun h=>h hxt)
           refine uE1 (uI @d1 (uI (nds_getD hkN) @e8)) ?_;intro K hK
           refine callF uTS (hlk) uTS uTS uTS ?_;refine uS ?_
           first|refine uS1 (uI @d2 (uI (nds_getD hkN) @e8)) ?_|exact uX1 (uI @d2 (uI (nds_getD hkN) @e8))
           refine uH ?_
           refine callF uTS (hwk) uTS uTS uTS ?_;refine uS ?_
           first|refine uS1 (uI (ints_getD hwo) @d3) ?_|exact uX1 (uI (ints_getD hwo) @d3)
           refine uH ?_
           refine hK _ ?_;clear hK K
           refine uF ?_
           have hc:cmr y.nodes (WN y p cs fs) t k=true:=hcd
           have hkl:k<lk.length:=by rw[hlkl];exact hkN
           refine uD1 @hlkl ?_;intro K hK
           refine uH ?_
           refine callF uTS (hwk) uTS uTS uTS ?_;refine uS ?_
           first|refine uS1 @hlkl ?_|exact uX1 @hlkl
           refine uH ?_
           refine hK _ ?_;clear hK K
           cases hs:isStrip x.kd with
           |true=>
            obtain⟨rfl,hfst⟩:=hk1 hs
            obtain⟨q1,q2⟩:=com_first h11 hwl hkN hc hfst
            rw[if_neg (by rw[hs];simp),if_pos ⟨q1,hb1,hb2⟩,q2,hw0] at hFF
            have hf1:=congrArg Prod.fst hFF
            have hf2:=congrArg Prod.snd hFF
            simp only at hf1 hf2
            refine uR ?_;intro K hK
            refine callF uTS ((strip7_sat x.kd)) uTS uTS uTS ?_;refine uS ?_
            first|refine uS1 @hs ?_|exact uX1 @hs
            refine hK _ ?_;clear hK K
            refine uT ?_
            refine uA1 @hln2 ?_
            refine awp_exit ?_
            refine⟨(_,op1),⟨hol1,ho2⟩, .of (Nat.le_refl _) (uHF1 (uI @hf1 @hf2)) uWF⟩
           |false=>
            have hku:=hk2 hs
            have hnx:upto y.nodes (WN y p cs fs) t lv1 (k+1)=lk.set k w0:=by rw[upto,if_pos hc,hw0,<-hku]
            refine uR ?_;intro K hK
            refine callF uTS ((strip7_sat x.kd)) uTS uTS uTS ?_;refine uS ?_
            first|refine uS1 @hs ?_|exact uX1 @hs
            refine hK _ ?_;clear hK K
            refine uF ?_
            repeat refine uA ?_
            refine⟨(_,k+1,lk.set k w0),⟨hkN,by rw[List.length_set];exact hlkl,fun h=>(by cases h),fun _=>hnx.symm⟩,Nat.sub_lt_sub_left hkN (Nat.lt_succ_self k),uKF⟩
          ·rw[decide_eq_false hxt] at hcd
           have d3:decide (¬z.ex.getD w0 0=(t:Int))=true:=decide_eq_true hxt
           refine uE1 (uI @d1 (uI (nds_getD hkN) @e8)) ?_;intro K hK
           refine callF uTS (hlk) uTS uTS uTS ?_;refine uS ?_
           first|refine uS1 (uI @d2 (uI (nds_getD hkN) @e8)) ?_|exact uX1 (uI @d2 (uI (nds_getD hkN) @e8))
           refine uH ?_
           refine callF uTS (hwk) uTS uTS uTS ?_;refine uS ?_
           first|refine uS1 (uI (ints_getD hwo) @d3) ?_|exact uX1 (uI (ints_getD hwo) @d3)
           refine uH ?_
           refine hK _ ?_;clear hK K
           refine uT ?_
           refine awp_exit ?_
           repeat refine uA ?_
           refine⟨(_,k+1,lk),⟨hkN,hlkl,hskip hcd⟩,Nat.sub_lt_sub_left hkN (Nat.lt_succ_self k),uKF⟩
      ·have dk:decide ((k:Int)<y.nodes.length)=false:=decide_eq_false (by omega)
       have hkE:k=y.nodes.length:=by omega
       refine uR1 @dk ?_;intro K hK
       refine hK _ ?_;clear hK K
       refine uF ?_
       refine awp_exit ?_
       cases hs:isStrip x.kd with
       |true=>
        obtain⟨rfl,hfst⟩:=hk1 hs
        have hcn:=com_none (t:=t) hwl (fun j hj=>hfst j (hkE ▸ hj))
        rw[if_neg (by rw[hs];simp),if_neg (fun h=>h.1 hcn)] at hFF
        have hf1:=congrArg Prod.fst hFF
        have hf2:=congrArg Prod.snd hFF
        simp only at hf1 hf2
        refine⟨(_,op1),⟨hol1,ho2⟩, .of (Nat.le_refl _) (uHF1 (uI @hf1 @hf2)) uWF⟩
       |false=>
        have hku:=hk2 hs
        rw[hkE,hup] at hku
        rw[if_pos hs,<-hku] at hFF
        have hf1:=congrArg Prod.fst hFF
        have hf2:=congrArg Prod.snd hFF
        simp only at hf1 hf2
        refine⟨(_,op1),⟨hol1,ho2⟩, .of (Nat.le_refl _) (uHF1 (uI @hf1 @hf2)) uWF⟩
   ·rintro⟨ck2,op1⟩ ⟨hol1,ho2⟩
    simp only at hol1 ho2
    have hnx2:(y.nodes.length:Int) - 1 - ((c+1:Nat):Int)=(t:Int) - 1:=by omega
    repeat refine uA ?_
    refine⟨(_,c+1,op1),⟨by simp only;omega,hol1,ho2⟩,by simp only;omega, .of (Nat.le_refl _) uHF (uWF1 @hnx2)⟩
  ·refine awp_exit ?_
   have hce:c=y.nodes.length:=by omega
   subst hce
   have hf:flows y.nodes p (WN y p cs fs) (upL y.nodes.length)=flF y.nodes p (WN y p cs fs) (upL y.nodes.length) y.nodes.length:=by rw[flows,upL_len]
   rw[hf]
   obtain⟨hl1,hl2⟩:=flF_len (xs:=y.nodes) (p:=p) (W:=WN y p cs fs) (ord:=upL y.nodes.length) y.nodes.length
   generalize flF y.nodes p (WN y p cs fs) (upL y.nodes.length) y.nodes.length=F at*
   repeat refine uA ?_
   refine awp_ret ?_;rw[show Tryz.f50.results.toList=[.cell 8 87, .tmp 9] from rfl];first|refine uRN1 (uI @hl1 @hl2) ?_|exact uRM1 (uI @hl1 @hl2)
end
open Go.Plant
theorem rest_eq (l:List Int) (x:Int):rest l x=l.filter fun z=>!decide (z=x):=by
 rw[rest];refine List.filter_congr fun z _=>?_
 by_cases h:z=x<;>simp[h]
section
variable {A n:Nat} {y:Ly} {p:Pl} {cs:List Int} {fs:List T3} {L:List Int}
theorem rstep_bad (y:Ly) (p:Pl) (cs:List Int) (fs:List T3) (hy:y.nodes.length<=1000) (hcs:cs.length<=1000) (hfs:fs.length<=1000) (hex:∀n,n<y.nodes.length->(y.nodes.getD n default).ex.length<=500) (hb:possR y.nodes cs fs≠0):
  SatG Tryz.prog tab 17 [] [y.av,p.av,IS cs, .sl (t3s fs) false] [] (.tup [(Pl.mk [] []).av, .sl [] false,I (possR y.nodes cs fs)]):=by
 have h1:=flows10_bad y p cs fs hy hcs hfs hex hb
 generalize possR y.nodes cs fs=er at*
 have d1:decide (¬er=0)=true:=decide_eq_true hb
 refine uFN Tryz.func17 Tryz.ntmps17 ?_;intro w e X hC
 refine uA ?_
 refine uR ?_;intro K hK
 refine callP uTS (h1) uTS uTS uTS ?_;refine uS ?_
 refine hK _ ?_;clear hK K
 refine uA1 @d1 ?_
 refine uT ?_
 repeat refine uA ?_
 refine awp_ret ?_;rw[show Tryz.f17.results.toList=[.cell 8 34, .tmp 9, .tmp 10] from rfl];first|refine uRN ?_|exact uRM
 rfl
set_option maxHeartbeats 2000000 in
theorem rstep_ok (h:Sx A n y p cs fs) (hi:PInv y p L) (hL:LOk L) (hd:dupF fs=false) (hsm:Sml7 y) (hv:validE y=0) (hfs:fs.length<=1000) (hb:possR y.nodes cs fs=0):
  SatG Tryz.prog tab 17 [] [y.av,p.av,IS cs, .sl (t3s fs) false] [] (.tup [(stepY y p cs fs).1.av, .sl (t3s (stepY y p cs fs).2) false,I 0]):=by
 have hgl:=h.good.len
 have hn:=h.good.n11
 have hcl:=h.cl
 have hpos:∀t,t<n->∀b∈p.bins.getD t [],b≠0:=fun t ht=>hi.binpos hL (by omega)
 have h1:=flows10_ok h hd hpos hsm hv hfs hb
 have hps:=h.fp.sl
 have hpb:=h.fp.bl
 have hr1:∀i,i<p.slots.length->(p.slots.getD i []).length<=1000:=fun i hi=>by have:=h.fp.row i (by omega);have:=h.fp.ln i (by omega);omega
 have hr2:∀i,i<p.bins.length->(p.bins.getD i []).length<=1000:=fun i hi=>by have:=h.fp.bin i (by omega);omega
 have h2:=copy_sat p (by omega) (by omega) hr1 hr2
 have hLl:(LVo y p cs fs).length=y.nodes.length:=h.eq.len
 have hlvo:=goes_lv h
 have hgc:=fun(m:Nat) (hm:m<n) (h0:0<=(LVo y p cs fs).getD m 0)=>goes_cases h hm h0
 have hbn:∀m,m<n->0<=(LVo y p cs fs).getD m 0->bagOf y.nodes p cs fs (LVo y p cs fs) m≠0:=fun m hm h0=>bag_ne h hpos hm h0
 have hno:=fun(m:Nat) (h0:(LVo y p cs fs).getD m 0<0)=>bag_none (y:=y) (p:=p) (fs:=fs) (LV:=LVo y p cs fs) (m:=m) h0
 show SatG Tryz.prog tab 17 [] [y.av,p.av,IS cs, .sl (t3s fs) false] [] (.tup [(stepP y.nodes p cs fs (LVo y p cs fs)).1.av, .sl (t3s (stepP y.nodes p cs fs (LVo y p cs fs)).2) false,I 0])
 have hflw:flows y.nodes p (WN y p cs fs) (upL y.nodes.length)=(LVo y p cs fs,(flows y.nodes p (WN y p cs fs) (upL y.nodes.length)).2):=rfl
 rw[hflw] at h1
 simp only at h1
 generalize (flows y.nodes p (WN y p cs fs) (upL y.nodes.length)).2=EN at*
 clear hflw
 generalize LVo y p cs fs=LV at*
 refine uFN Tryz.func17 Tryz.ntmps17 ?_;intro w e X hC
 refine uA ?_
 refine uR ?_;intro K hK
 refine callP uTS (h1) uTS uTS uTS ?_;refine uS ?_
 refine hK _ ?_;clear hK K
 refine uA ?_
 refine uF ?_
 refine uR ?_;intro K hK
 have z:=@Bool.or_true;refine callE [] [(132,20,100,1),(402,20,101,1)] false (h2) (uTR1 z) (uTR1 z) (uTE1 z) (uTE1 z) (uTE1 z) (uTE1 z) (uTE1 z) (uTE1 z) (uTE1 z) (uTE1 z) (uTE1 z) (uTE1 z) (uTE1 z) (uTE1 z) (uTE1 z) (uTE1 z) (uTE1 z) ?_;refine uQS1 z ?_;clear z
 refine hK _ ?_;clear hK K
 iterate 2 refine uA ?_
 have hs1l:=fun i=>st1_len1 (xs:=y.nodes) (p:=p) (cs:=cs) (fs:=fs) (LV:=LV) i
 have hs2l:=fun i=>st1_len2 (xs:=y.nodes) (p:=p) (cs:=cs) (fs:=fs) (LV:=LV) i
 have hz1:(st1 y.nodes p cs fs LV 0).1=p.slots:=rfl
 have hz2:(st1 y.nodes p cs fs LV 0).2.1=p.bins:=rfl
 refine awp_merge (fun q:Nat×List Int=>⟨[(2,IS cs),(3, .sl (t3s fs) false),(4, .ptO 104 1 0 0 0),(5, .ptO 105 2 0 0 0),(8, .ptO 108 3 0 0 0),(10,I 0),(11, .ptO 111 14 0 0 0),(13, .ptO 113 21 0 0 0),(14, .slO 136 26 0 y.nodes.length)],(132,some (20, .own 22 1 (krows 3 (st1 y.nodes p cs fs LV y.nodes.length).1)))::(402,some (20, .own 22 1 (krows 3 (st1 y.nodes p cs fs LV y.nodes.length).2.1)))::(136,some (26, .own 3 1 (ints q.2)))::(113,some (21, .box [.slO 132 20 0 p.slots.length, .slO 402 20 0 p.bins.length]))::(111,some (14, .box [IS LV,IS EN]))::(104,some (1, .box [.sl (nds y.nodes) false, .sl (t3s y.devs) false]))::(105,some (2, .box [RS p.slots,RS p.bins]))::(108,some (3, .box [.sl [] true, .sl [] true]))::[],q.1⟩)
  (fun q=>q.2.length=y.nodes.length/\∀j,j<y.nodes.length->q.2.getD j 0=if 0<=LV.getD j 0 then bagOf y.nodes p cs fs LV j else 0) ?_ ?_
 ·refine uW ?_
  refine awp_loopW (fun q:Nat×Nat×List Int=>⟨[(2,IS cs),(3, .sl (t3s fs) false),(4, .ptO 104 1 0 0 0),(5, .ptO 105 2 0 0 0),(8, .ptO 108 3 0 0 0),(10,I 0),(11, .ptO 111 14 0 0 0),(13, .ptO 113 21 0 0 0),(14, .slO 136 26 0 y.nodes.length),(15,I q.2.1)],(132,some (20, .own 22 1 (krows 3 (st1 y.nodes p cs fs LV q.2.1).1)))::(402,some (20, .own 22 1 (krows 3 (st1 y.nodes p cs fs LV q.2.1).2.1)))::(136,some (26, .own 3 1 (ints q.2.2)))::(113,some (21, .box [.slO 132 20 0 p.slots.length, .slO 402 20 0 p.bins.length]))::(111,some (14, .box [IS LV,IS EN]))::(104,some (1, .box [.sl (nds y.nodes) false, .sl (t3s y.devs) false]))::(105,some (2, .box [RS p.slots,RS p.bins]))::(108,some (3, .box [.sl [] true, .sl [] true]))::[],q.1⟩)
   (fun q=>q.2.1<=y.nodes.length/\q.2.2.length=y.nodes.length/\(∀j,j<q.2.1->q.2.2.getD j 0=if 0<=LV.getD j 0 then bagOf y.nodes p cs fs LV j else 0)/\∀j,q.2.1<=j->q.2.2.getD j 0=0) (fun q=>y.nodes.length - q.2.1) (_,0,List.replicate y.nodes.length 0) ⟨Nat.zero_le _,by simp,fun j hj=>absurd hj (Nat.not_lt_zero _),fun j _=>by simp only[List.getD_eq_getElem?_getD,List.getElem?_replicate];split<;>rfl⟩ (.of (Nat.le_refl _) (uHF1 (uI @hz1 @hz2)) uWF) ?_
  rintro⟨ck,i,lf⟩ ⟨hi2,hll,hlo,hhi⟩
  simp only at hi2 hll hlo hhi
  have hL1:=hs1l i
  have hL2:=hs2l i
  have hex1:st1 y.nodes p cs fs LV (i+1)=_:=st1.eq_2 y.nodes p cs fs LV i
  have hsrow:=fun(hin:i<p.slots.length)=>st1_row (xs:=y.nodes) (p:=p) (cs:=cs) (fs:=fs) (LV:=LV) hin i
  generalize hsE:st1 y.nodes p cs fs LV i=s at*
  obtain⟨s1,s2,s3⟩:=s
  simp only at hL1 hL2 hex1 hsrow
  refine uA ?_
  refine uW ?_;refine condP _ rfl (fun h0=>?_) (fun h0=>?_)
  ·have hlt:i<y.nodes.length:=by omega
   have hin:i<n:=by omega
   have hic:i<cs.length:=by omega
   have hiL:i<LV.length:=by omega
   have hip:i<p.slots.length:=by omega
   have hib:i<p.bins.length:=by omega
   have hisl:i<s1.length:=by omega
   have hisb:i<s2.length:=by omega
   have hil:i<lf.length:=by omega
   have hrow:=h.fp.row i hlt
   have hln:=h.fp.ln i hlt
   have hbl:=hr2 i hib
   have hno:=hno i
   have hs2e:=st1_bin (xs:=y.nodes) (p:=p) (cs:=cs) (fs:=fs) (LV:=LV) hib i
   rw[hsE,if_neg (fun h=>absurd h.1 (Nat.lt_irrefl i))] at hs2e
   simp only at hs2e
   rw[advN] at hno
   have hat:=at_sat y fs i hlt (by omega) hfs ⟨by omega,by omega⟩ (fun j hj hb=>h.ff.ok j hj i hlt hb)
   have hadv:=advance_sat (p.slots.getD i []) (atF fs i (y.nodes.getD i default).ln.toNat) (decide (0<=LV.getD i 0)) (by rw[atF_length];omega) (by omega)
   rw[adv_eq] at hadv
   have hset:∀v,v=(if 0<=LV.getD i 0 then bagOf y.nodes p cs fs LV i else 0)->(∀j,j<i+1->(lf.set i v).getD j 0=if 0<=LV.getD j 0 then bagOf y.nodes p cs fs LV j else 0)/\∀j,i+1<=j->(lf.set i v).getD j 0=0:=fun v hv=>by
    refine⟨fun j hj=>?_,fun j hj=>?_⟩
    ·rw[getD_set2]
     split
     ·rename_i hij;rw[<-hij.1];exact hv
     ·rename_i hij;exact hlo j (by omega)
    ·rw[getD_set2,if_neg (by omega)];exact hhi j (by omega)
   have hbg:bagOf y.nodes p cs fs LV i=if isStrip (y.nodes.getD i default).kd=true then(advL (p.slots.getD i []) (atF fs i (y.nodes.getD i default).ln.toNat) (decide (0<=LV.getD i 0))).2 else cs.getD i 0:=rfl
   have hAl:(advL (p.slots.getD i []) (atF fs i (y.nodes.getD i default).ln.toNat) (decide (0<=LV.getD i 0))).1.length=(p.slots.getD i []).length:=advL_len _ _ _
   generalize e2:y.nodes.getD i default=x at*
   generalize bagOf y.nodes p cs fs LV i=bg at*
   generalize advL (p.slots.getD i []) (atF fs i x.ln.toNat) (decide (0<=LV.getD i 0))=A at*
   generalize atF fs i x.ln.toNat=at1 at*
   generalize e3:p.slots.getD i []=sl at*
   refine uR1 (uI (nds_getD hlt) @e2) ?_;intro K hK
   refine uH ?_
   refine callF uTS ((strip7_sat x.kd)) uTS uTS uTS ?_;refine uS ?_
   refine uH ?_
   refine hK _ ?_;clear hK K
   cases c1:isStrip x.kd with
   |true=>
    rw[c1] at hex1 hbg
    simp only[if_true] at hex1 hbg
    refine uT ?_
    have hv:A.2=if 0<=LV.getD i 0 then bg else 0:=by
     by_cases c:0<=LV.getD i 0
     ·rw[if_pos c,hbg]
     ·rw[if_neg c];exact hno (by omega)
    obtain⟨hst1,hst2⟩:=hset _ hv
    refine uD1 (uI (rows_getD hip) (uI @e3 (uI (ints_getD hiL) (uI @hL1 (uI @hL2 @hll))))) ?_;intro K hK
    refine uH ?_
    refine callP uTS (hat) uTS uTS uTS ?_;refine uS ?_
    first|refine uS1 (uI (rows_getD hip) (uI @e3 (uI (ints_getD hiL) (uI @hL1 (uI @hL2 @hll))))) ?_|exact uX1 (uI (rows_getD hip) (uI @e3 (uI (ints_getD hiL) (uI @hL1 (uI @hL2 @hll)))))
    refine uH ?_
    refine callE [] [(172,ck+32,100,1)] false (hadv) uTR uTR uTE uTE uTE uTE uTE uTE uTE uTE uTE uTE uTE uTE uTE uTE uTE ?_;refine uQS ?_
    refine uH ?_
    refine hK _ ?_;clear hK K
    repeat refine uA ?_
    refine⟨(_,i+1,lf.set i A.2),⟨by simp only;omega,by rw[List.length_set];exact hll,hst1,hst2⟩,by simp only;omega, .of (Nat.le_refl _) (uHF1 @hex1) uWF⟩
   |false=>
    rw[c1] at hex1 hbg
    simp only[Bool.false_eq_true,if_false] at hex1 hbg
    refine uF ?_
    by_cases c2:0<=LV.getD i 0
    ·have d2:decide (0<=LV.getD i 0)=true:=decide_eq_true c2
     obtain⟨hst1,hst2⟩:=hset bg (by rw[if_pos c2])
     rw[if_pos c2] at hex1
     repeat first|refine uC ?_|refine uA1 (uI (ints_getD hiL) (uI @d2 (uI (ints_getD hic) @hll))) ?_
     have hs2b:(s2.getD i []).length<=1000:=by rw[hs2e];exact hbl
     have hdr:=drop_sat (s2.getD i []) (cs.getD i 0) hs2b
     rw[rest_eq] at hdr
     refine uD1 (uI (krows_getD (t:=3) hisb) (uI @hL2 (uI @hpb (ints_getD hic)))) ?_;intro K hK
     refine uH ?_
     refine callE [] [(202,ck+38,100,1)] true (hdr) uTR uTR uTE uTE uTE uTE uTE uTE uTE uTE uTE uTE uTE uTE uTE uTE uTE ?_;refine uQS ?_
     refine uH ?_
     refine hK _ ?_;clear hK K
     repeat refine uA ?_
     refine⟨(_,i+1,lf.set i bg),⟨by simp only;omega,by rw[List.length_set];exact hll,hst1,hst2⟩,by simp only;omega, .of (Nat.le_refl _) (uHF1 (uI @hex1 (uI @hpb (uI @List.set_set.{0} @hbg)))) (uWF1 @hbg)⟩
    ·have d2:decide (0<=LV.getD i 0)=false:=decide_eq_false c2
     obtain⟨hst1,hst2⟩:=hset 0 (by rw[if_neg c2])
     rw[if_neg c2] at hex1
     have hlf:lf.set i 0=lf:=by
      have:=hhi i (Nat.le_refl _)
      refine List.ext_getElem (by simp) fun j h1 h2=>?_
      rw[List.getElem_set]
      split
      ·rename_i hj
       subst hj
       rw[List.getD_eq_getElem?_getD,List.getElem?_eq_getElem h2] at this
       exact this.symm
      ·rfl
     rw[hlf] at hst1 hst2
     repeat first|refine uC ?_|refine uA1 (uI (ints_getD hiL) @d2) ?_
     refine⟨(_,i+1,lf),⟨by simp only;omega,hll,hst1,hst2⟩,by simp only;omega, .of (Nat.le_refl _) (uHF1 @hex1) uWF⟩
  ·refine awp_exit ?_
   have hie:i=y.nodes.length:=by omega
   rw[hie] at hsE hlo
   rw[hsE]
   repeat refine uA ?_
   refine⟨(_,lf),⟨hll,hlo⟩,uKF⟩
 ·rintro⟨ck1,lf⟩ ⟨hll,hlf⟩
  simp only at hll hlf
  iterate 2 refine uA ?_
  have hok1:=st1_ok (cs:=cs) (fs:=fs) (LV:=LV) h.fp hi.srt y.nodes.length (Nat.le_refl _)
  have hlen1:=fun i=>st1_len (xs:=y.nodes) (p:=p) (cs:=cs) (fs:=fs) (LV:=LV) i
  have hok2:=fun i=>st2_ok (ms:=(st1 y.nodes p cs fs LV y.nodes.length).2.2) hok1 i
  have hnx:=fun(i:Nat) (h0:0<=LV.getD i 0) (hi:i<y.nodes.length) {q}=>st2_next (xs:=y.nodes) (p:=p) (cs:=cs) (fs:=fs) h0 hi (s:=((st1 y.nodes p cs fs LV y.nodes.length).1,(st1 y.nodes p cs fs LV y.nodes.length).2.1)) (q:=q)
  have hsp:stepP y.nodes p cs fs LV=(⟨(st2 y.nodes (st1 y.nodes p cs fs LV y.nodes.length).2.2 ((st1 y.nodes p cs fs LV y.nodes.length).1,(st1 y.nodes p cs fs LV y.nodes.length).2.1) (st1 y.nodes p cs fs LV y.nodes.length).2.2.length).1,(st2 y.nodes (st1 y.nodes p cs fs LV y.nodes.length).2.2 ((st1 y.nodes p cs fs LV y.nodes.length).1,(st1 y.nodes p cs fs LV y.nodes.length).2.1) (st1 y.nodes p cs fs LV y.nodes.length).2.2.length).2⟩,(st1 y.nodes p cs fs LV y.nodes.length).2.2.filter fun m=>!decide (m.b=m.c)):=rfl
  rw[hsp]
  have hq0:st2 y.nodes (st1 y.nodes p cs fs LV y.nodes.length).2.2 ((st1 y.nodes p cs fs LV y.nodes.length).1,(st1 y.nodes p cs fs LV y.nodes.length).2.1) 0=((st1 y.nodes p cs fs LV y.nodes.length).1,(st1 y.nodes p cs fs LV y.nodes.length).2.1):=rfl
  clear hsp
  have hm0:(st1 y.nodes p cs fs LV 0).2.2=[]:=rfl
  generalize (st1 y.nodes p cs fs LV y.nodes.length).1=sa at*
  generalize (st1 y.nodes p cs fs LV y.nodes.length).2.1=sb at*
  obtain⟨ms,hms⟩:∃m,m=(st1 y.nodes p cs fs LV y.nodes.length).2.2:=⟨_,rfl⟩
  rw[<-hms]
  rw[<-hms] at hok2 hnx hq0
  have hz3:(st2 y.nodes ms (sa,sb) (st1 y.nodes p cs fs LV 0).2.2.length).1=sa:=by rw[hm0];exact congrArg Prod.fst hq0
  have hz4:(st2 y.nodes ms (sa,sb) (st1 y.nodes p cs fs LV 0).2.2.length).2=sb:=by rw[hm0];exact congrArg Prod.snd hq0
  have hz5:((st1 y.nodes p cs fs LV 0).2.2.filter fun m=>!decide (m.b=m.c))=[]:=by rw[hm0];rfl
  have hz6:t3s ([]:List T3)=[]:=rfl
  refine uW ?_
  refine awp_loopW (fun q:Nat×Nat=>⟨[(2,IS cs),(3, .sl (t3s fs) false),(4, .ptO 104 1 0 0 0),(5, .ptO 105 2 0 0 0),(8, .ptO 108 3 0 0 0),(10,I 0),(11, .ptO 111 14 0 0 0),(13, .ptO 113 21 0 0 0),(14, .slO 136 26 0 y.nodes.length),(16, .slO 116 ck1 0 ((st1 y.nodes p cs fs LV q.2).2.2.filter fun m=>!decide (m.b=m.c)).length),(17,I q.2)],(116,some (ck1, .own 44 3 (t3s ((st1 y.nodes p cs fs LV q.2).2.2.filter fun m=>!decide (m.b=m.c)))))::(132,some (20, .own 22 1 (krows 3 (st2 y.nodes ms (sa,sb) (st1 y.nodes p cs fs LV q.2).2.2.length).1)))::(402,some (20, .own 22 1 (krows 3 (st2 y.nodes ms (sa,sb) (st1 y.nodes p cs fs LV q.2).2.2.length).2)))::(136,some (26, .own 3 1 (ints lf)))::(113,some (21, .box [.slO 132 20 0 p.slots.length, .slO 402 20 0 p.bins.length]))::(111,some (14, .box [IS LV,IS EN]))::(104,some (1, .box [.sl (nds y.nodes) false, .sl (t3s y.devs) false]))::(105,some (2, .box [RS p.slots,RS p.bins]))::(108,some (3, .box [.sl [] true, .sl [] true]))::[],q.1⟩)
   (fun q=>q.2<=y.nodes.length) (fun q=>y.nodes.length - q.2) (_,0) (Nat.zero_le _) (.of (Nat.le_refl _) (uHF1 (uI @hz3 (uI @hz4 (uI @hz5 @hz6)))) (uWF1 @hz5)) ?_
  rintro⟨ck,i⟩ hi2
  simp only at hi2
  clear hz3 hz4 hz5 hz6 hm0 hq0
  have hoki:=hok2 (st1 y.nodes p cs fs LV i).2.2.length
  have hleni:=hlen1 i
  refine uA ?_
  refine uW ?_;refine condP _ rfl (fun h0=>?_) (fun h0=>?_)
  ·have hlt:i<y.nodes.length:=by omega
   have hin:i<n:=by omega
   have hil:i<lf.length:=by omega
   have hiL:i<LV.length:=by omega
   have hlfi:=hlf i hlt
   by_cases c0:0<=LV.getD i 0
   ·rw[if_pos c0] at hlfi
    have hbne:=hbn i hin c0
    have hxw:=hlvo i hlt c0
    obtain⟨_,hg0,hg1,_⟩:=hgc i hin c0
    obtain⟨k,hk⟩:∃k:Nat,goesTo y.nodes LV i=k:=⟨(goesTo y.nodes LV i).toNat,(Int.toNat_of_nonneg hg0).symm⟩
    obtain⟨w0,hw⟩:∃w:Nat,LV.getD i 0=w:=⟨(LV.getD i 0).toNat,(Int.toNat_of_nonneg c0).symm⟩
    have hO:=st1_next (xs:=y.nodes) (p:=p) (cs:=cs) (fs:=fs) c0
    have hkn:k<y.nodes.length:=by rw[hk] at hg1;rw[hgl];exact Int.ofNat_lt.1 hg1
    have hxk:(y.nodes.getD i default).ex.getD w0 0=(k:Int):=by rw[<-hk,goesTo,hw,Int.toNat_natCast]
    rw[hw] at hxw
    have hxw:w0<(y.nodes.getD i default).ex.length:=Int.ofNat_lt.1 hxw
    have hN:=fun {q}=>hnx i c0 hlt (q:=q)
    generalize hqE:st2 y.nodes ms (sa,sb) (st1 y.nodes p cs fs LV i).2.2.length=q at*
    have hN:=hN rfl
    obtain⟨q1,q2⟩:=q
    obtain⟨hq1,hq2,hq3,hq4⟩:=hoki
    simp only at hq1 hq2 hq3 hq4 hN
    rw[hk,Int.toNat_natCast] at hN
    have hmv:mvOf y.nodes p cs fs LV i=⟨bagOf y.nodes p cs fs LV i,i,k⟩:=by rw[mvOf,hk]
    rw[hmv] at hO
    have hF:((st1 y.nodes p cs fs LV (i+1)).2.2.filter fun m=>!decide (m.b=m.c))=((st1 y.nodes p cs fs LV i).2.2.filter fun m=>!decide (m.b=m.c))++(if(i:Int)=k then[] else[⟨bagOf y.nodes p cs fs LV i,i,k⟩]):=by
     rw[hO,List.filter_append]
     congr 1
     by_cases c:(i:Int)=k
     ·rw[if_pos c,List.filter_cons_of_neg (by simp[c])];rfl
     ·rw[if_neg c,List.filter_cons_of_pos (by simp[c])];rfl
    have hOl:((st1 y.nodes p cs fs LV i).2.2.filter fun m=>!decide (m.b=m.c)).length<=i:=Nat.le_trans (List.length_filter_le _ _) hleni
    have hr1:=hq3 k hkn
    have hr2:=(hq4 k hkn).2
    have hsk:=h.fp.st k hkn
    clear hO hmv hq3 hq4 hnx hok2 hlen1 hok1 hgc hbn hno hqE
    generalize ((st1 y.nodes p cs fs LV i).2.2.filter fun m=>!decide (m.b=m.c))=O at*
    generalize bagOf y.nodes p cs fs LV i=bg at*
    have hkq1:k<q1.length:=by rw[hq1];exact hkn
    have hkq2:k<q2.length:=by rw[hq2];exact hkn
    generalize e2:y.nodes.getD i default=x at*
    have d0:decide (bg=0)=false:=decide_eq_false hbne
    refine uA1 (uI (ints_getD hil) (uI @hlfi (uI @d0 @hll))) ?_
    refine uF ?_
    refine uK1 (uI (nds_getD hlt) (uI @e2 (uI (ints_getD hiL) (uI @hw (uI (ints_getD hxw) @hxk))))) ?_
    obtain⟨R,hR⟩:∃R,R=(if isStrip (y.nodes.getD k default).kd=true then(q1.set k ((q1.getD k []).set 0 bg),q2) else(q1,q2.set k (putL (q2.getD k []) bg))):=⟨_,rfl⟩
    rw[<-hR] at hN
    generalize e4:y.nodes.getD k default=z at*
    refine uR1 (uI (nds_getD hkn) @e4) ?_;intro K hK
    refine uH ?_
    refine callF uTS ((strip7_sat z.kd)) uTS uTS uTS ?_;refine uS ?_
    refine uH ?_
    refine hK _ ?_;clear hK K
    cases c1:isStrip z.kd with
    |true=>
     rw[c1,if_pos rfl] at hR
     have hR1:R.1=q1.set k ((q1.getD k []).set 0 bg):=by rw[hR]
     have hR2:R.2=q2:=by rw[hR]
     have hz1:=hsk c1
     have hr0:0<(q1.getD k []).length:=by rw[hr1];clear hR hN;omega
     clear hR
     refine uT ?_
     refine uD1 (uI (krows_getD (t:=3) hkq1) (uI @hq1 (uI @hps (uI (ints_getD hil) (uI @hlfi @hll))))) ?_;intro K hK
     refine uH ?_
     refine hK _ ?_;clear hK K
     have hsk2:∀v,((krows 3 q1).set k v).getD k .bad=v:=fun v=>by
      rw[getD_set2,if_pos ⟨rfl,by rw[krows_length];exact hkq1⟩]
     have hlk:((q1.getD k []).set 0 bg).length=(q1.getD k []).length:=List.length_set
     refine awp_attach (id:=132) (gi:=20) (t:=22) (k:=1) (i:=k) (rid:=240) (rg:=ck+35) (n:=(q1.getD k []).length) rfl (by rw[List.length_set,krows_length];exact hkq1) (hsk2 _) (by decide) ?_ ?_
     ·simp only[go_sem,Nat.reduceAdd,Nat.reduceSub,Nat.reduceMul,Nat.reduceLT,Nat.reduceEqDiff,Nat.reduceBEq,Nat.reduceLeDiff,Int.reduceToNat,↓reduceIte,Int.reduceEq,Int.reduceLT,Int.reduceLE,Int.reduceAdd,Int.reduceSub,Int.reduceNeg,reduceCtorEq,attP,hlk]
     ·simp only[go_sem,Nat.reduceAdd,Nat.reduceSub,Nat.reduceMul,Nat.reduceLT,Nat.reduceEqDiff,Nat.reduceBEq,Nat.reduceLeDiff,Int.reduceToNat,↓reduceIte,Int.reduceEq,Int.reduceLT,Int.reduceLE,Int.reduceAdd,Int.reduceSub,Int.reduceNeg,reduceCtorEq,att,List.set_set]
      by_cases cik:(i:Int)=k
      ·have d9:decide (¬(k:Int)=i)=false:=decide_eq_false (fun h=>h cik.symm)
       rw[if_pos cik,List.append_nil] at hF
       repeat first|refine uC ?_|refine uA1 @d9 ?_
       refine⟨(_,i+1),hlt,Nat.sub_lt_sub_left hlt (Nat.lt_succ_self i), .of (Nat.le_refl _) (uHF1 (uI @hF (uI @hN (uI @hR1 (uI @hR2 (uI @hps @hpb)))))) (uWF1 @hF)⟩
      ·have d9:decide (¬(k:Int)=i)=true:=decide_eq_true (fun h=>cik h.symm)
       rw[if_neg cik] at hF
       repeat first|refine uC ?_|refine uA1 (uI @d9 (uI (ints_getD hil) (uI @hlfi (uI @hll @t3s_snoc)))) ?_
       refine⟨(_,i+1),hlt,Nat.sub_lt_sub_left hlt (Nat.lt_succ_self i), .of (Nat.le_refl _) (uHF1 (uI @hF (uI @hN (uI @hR1 (uI @hR2 (uI @hps @hpb)))))) (uWF1 @hF)⟩
    |false=>
     rw[c1,if_neg (by simp)] at hR
     have hR1:R.1=q1:=by rw[hR]
     have hR2:R.2=q2.set k (putL (q2.getD k []) bg):=by rw[hR]
     have hput:=put_sat (q2.getD k []) bg (by clear hR hN hF;omega)
     clear hR
     refine uF ?_
     refine uD1 (uI (krows_getD (t:=3) hkq2) (uI @hq2 (uI @hpb (uI (ints_getD hil) (uI @hlfi @hll))))) ?_;intro K hK
     refine uH ?_
     refine callE [] [(258,ck+43,100,1)] true (hput) uTR uTR uTE uTE uTE uTE uTE uTE uTE uTE uTE uTE uTE uTE uTE uTE uTE ?_;refine uQS ?_
     refine uH ?_
     refine hK _ ?_;clear hK K
     by_cases cik:(i:Int)=k
     ·have d9:decide (¬(k:Int)=i)=false:=decide_eq_false (fun h=>h cik.symm)
      rw[if_pos cik,List.append_nil] at hF
      repeat first|refine uC ?_|refine uA1 @d9 ?_
      refine⟨(_,i+1),hlt,Nat.sub_lt_sub_left hlt (Nat.lt_succ_self i), .of (Nat.le_refl _) (uHF1 (uI @hF (uI @hN (uI @hR1 (uI @hR2 (uI @hps (uI @hpb @List.set_set.{0}))))))) (uWF1 @hF)⟩
     ·have d9:decide (¬(k:Int)=i)=true:=decide_eq_true (fun h=>cik h.symm)
      rw[if_neg cik] at hF
      repeat first|refine uC ?_|refine uA1 (uI @d9 (uI (ints_getD hil) (uI @hlfi (uI @hll @t3s_snoc)))) ?_
      refine⟨(_,i+1),hlt,Nat.sub_lt_sub_left hlt (Nat.lt_succ_self i), .of (Nat.le_refl _) (uHF1 (uI @hF (uI @hN (uI @hR1 (uI @hR2 (uI @hps (uI @hpb @List.set_set.{0}))))))) (uWF1 @hF)⟩
   ·rw[if_neg c0] at hlfi
    have hsty:=st1_stay (xs:=y.nodes) (p:=p) (cs:=cs) (fs:=fs) c0
    have d0:decide (lf.getD i 0=0)=true:=decide_eq_true hlfi
    refine uA1 (uI (ints_getD hil) (uI @d0 @hll)) ?_
    refine uT ?_
    refine awp_exit ?_
    repeat refine uA ?_
    refine⟨(_,i+1),by simp only;omega,by simp only;omega, .of (Nat.le_refl _) (uHF1 @hsty) (uWF1 @hsty)⟩
  ·refine awp_exit ?_
   have hie:i=y.nodes.length:=by omega
   rw[hie,<-hms] at hoki
   obtain⟨hq1,hq2,hq3,hq4⟩:=hoki
   rw[hie,<-hms]
   have hOl:(ms.filter fun m=>!decide (m.b=m.c)).length<=1000:=Nat.le_trans (List.length_filter_le _ _) (by rw[hms];exact Nat.le_trans (hlen1 _) (by omega))
   generalize (ms.filter fun m=>!decide (m.b=m.c))=O at*
   generalize st2 y.nodes ms (sa,sb) ms.length=q at*
   repeat refine uA ?_
   refine awp_ret ?_;rw[show Tryz.f17.results.toList=[.cell 8 34, .tmp 9, .tmp 10] from rfl];first|refine uRN1 (uI @hq1 (uI @hq2 (uI @hps @hpb))) ?_|exact uRM1 (uI @hq1 (uI @hq2 (uI @hps @hpb)))
end
open Go.Plant
section
variable {y:Ly} {c:List Int} {k:Nat}
end
section
variable {A n:Nat} {y:Ly} {p:Pl} {L:List Int}
theorem gsame_sat (h:PInv y p L):SatG Tryz.prog tab 18 [] [p.av,p.av] [] (B true):=by
 have hx:=h.fp.xl
 have hs:=h.fp.sl
 have hb:=h.fp.bl
 have row:∀r∈p.slots,r.length<=9223372036854775807:=fun r hr=>by
  obtain⟨i,hi,rfl⟩:=List.getElem_of_mem hr
  have h1:=h.fp.row i (by omega)
  have h2:=h.fp.ln i (by omega)
  have e:p.slots.getD i []=p.slots[i]:=by simp[hi]
  rw[e] at h1;omega
 have bin:∀r∈p.bins,r.length<=9223372036854775807:=fun r hr=>by
  obtain⟨i,hi,rfl⟩:=List.getElem_of_mem hr
  have h1:=h.fp.bin i (by omega)
  have e:p.bins.getD i []=p.bins[i]:=by simp[hi]
  rw[e] at h1;omega
 have:=same_sat p p (by omega) (by omega) row bin (by omega) (by omega)
 rwa[decide_eq_true ⟨rfl,rfl⟩] at this
end
open Go.Plant
theorem poss_inv {y:Ly} {cs:List Int} {fs:List T3} (h:possR y.nodes cs fs=0):cs.length=y.nodes.length/\(∀i,i<y.nodes.length->cmdOk (y.nodes.getD i default) (cs.getD i 0)=true)/\FtOk y.nodes fs/\fs.length<=4:=by
 rw[possR] at h
 split at h
 ·cases h
 ·rename_i c1
  split at h
  ·cases h
  ·rename_i c2
   split at h
   ·cases h
   ·rename_i c3
    split at h
    ·rename_i c4;exact absurd h c4
    ·rename_i c4
     split at h
     ·cases h
     ·rename_i c5
      have hl:cs.length=y.nodes.length:=by omega
      refine⟨hl,fun i hi=>?_,⟨?_,?_⟩,by omega⟩
      ·have c2:cmdsOk y.nodes cs=true:=by simpa using c2
       rw[cmdsOk,List.all_eq_true] at c2
       exact c2 i (List.mem_range.2 (by omega))
      ·have c4:firstE y.nodes fs=0:=Decidable.byContradiction c4
       clear c5
       induction fs with
       |nil=>intro f hf;cases hf
       |cons f r ih=>
        rw[firstE] at c4
        split at c4
        ·rename_i c6;exact absurd c4 c6
        ·rename_i c6
         have c6:fltE y.nodes f=0:=Decidable.byContradiction c6
         intro g hg
         rcases List.mem_cons.1 hg with rfl|hg
         ·rw[fltE] at c6
          split at c6
          ·cases c6
          ·split at c6
           ·cases c6
           ·refine⟨by omega,by omega,by omega,by omega,by omega⟩
         ·exact ih (by simp at c3;omega) (by first|assumption|exact fun h=>h c4|simpa using c4) c4 g hg
      ·have c5:dupF fs=false:=by simpa using c5
       rw[List.pairwise_iff_getElem]
       intro i j hi hj hij h
       have:=dup_ne c5 hj hi (by omega)
       simp only[List.getD_eq_getElem?_getD,List.getElem?_eq_getElem hi,List.getElem?_eq_getElem hj,Option.getD_some] at this
       exact this h
theorem steps_law (l raw:List Int) (ls:List T3) (hl:l.length<=9223372036854775807) (hr:∀x∈l,I64 x) (hraw:raw.length<=9223372036854775807) (hls:ls.length<=9223372036854775807) (haw:SatG Tryz.prog tab 10 [] [] [] (B true)):
  SatG Tryz.prog tab 3 [] [IS l,IS raw, .sl (t3s ls) false] [] (B true):=by
 have hnew:=new_sat l hl
 have hf:=cut2_fits hr
 generalize cut2 l=l' at*
 have hlay:=layout_sat l' 0 hf
 obtain⟨A,n,hg⟩:=gL_good l' 0
 generalize gL l' 0=gl at*
 obtain⟨y,a0⟩:=gl
 simp only at hg hlay
 obtain⟨hN,hN0,hln⟩:=hg.sum
 have hpl:=plant_sat l' a0 12 y hf (by omega) (by omega) hln
 obtain⟨m,hm,-,hgp⟩:=gPl_gen hg.g l' a0 12 (by omega)
 have hL:=upF_ok (m:=m) (by omega)
 generalize gPl l' a0 y.nodes 12=gp at*
 obtain⟨p,a1⟩:=gp
 simp only at hpl hgp
 refine uFN Tryz.func3 Tryz.ntmps3 ?_;intro w e X hC
 refine uA ?_
 refine awp_seq ?_
 refine awp_merge (fun q:Nat=>⟨[(0,IS l),(1,IS raw),(2, .sl (t3s ls) false)],[],q⟩) (fun _=>raw.length<=40/\ls.length<=12) ?_ ?_
 ·by_cases c1:raw.length<=40
  ·have d1:decide (40<(raw.length:Int))=false:=decide_eq_false (by omega)
   by_cases c2:ls.length<=12
   ·have d2:decide (12<(ls.length:Int))=false:=decide_eq_false (by omega)
    refine uR1 (uI @d1 @d2) ?_;intro K hK
    refine hK _ ?_;clear hK K
    refine uF ?_
    refine uW ?_
    refine⟨_,⟨c1,c2⟩,uKF⟩
   ·have d2:decide (12<(ls.length:Int))=true:=decide_eq_true (by omega)
    refine uR1 (uI @d1 @d2) ?_;intro K hK
    refine hK _ ?_;clear hK K
    refine uT ?_
    refine uR ?_;intro K hK
    refine callF uTS (haw) uTS uTS uTS ?_;refine uS ?_
    refine hK _ ?_;clear hK K
    (refine awp_ret (ret1 uRT ?_);try rfl)
  ·have d1:decide (40<(raw.length:Int))=true:=decide_eq_true (by omega)
   refine uR1 @d1 ?_;intro K hK
   refine hK _ ?_;clear hK K
   refine uT ?_
   refine uR ?_;intro K hK
   refine callF uTS (haw) uTS uTS uTS ?_;refine uS ?_
   refine hK _ ?_;clear hK K
   (refine awp_ret (ret1 uRT ?_);try rfl)
 ·rintro ck0 ⟨hraw,hls⟩
  refine uR ?_;intro K hK
  refine callE [] [(130,ck0+1,100,1)] false (hnew) uTR uTR uTE uTE uTE uTE uTE uTE uTE uTE uTE uTE uTE uTE uTE uTE uTE ?_;refine uQS ?_
  refine hK _ ?_;clear hK K
  refine awp_weak (s':=⟨[(1,IS raw),(2, .sl (t3s ls) false),(7, .ptO 130 (ck0+1) 0 0 0)],(130,some (ck0+1, .box [IS l',I (min 0 l'.length:Nat)]))::[],_⟩) (.of (Nat.le_refl _) (uHF1 (uI @Nat.zero_min @Int.natCast_zero)) uWF) ?_
  refine uR ?_;intro K hK
  refine callL rfl (hlay) uTS uTS uTS uTS uTS ?_;refine uS ?_
  refine hK _ ?_;clear hK K
  refine uR ?_;intro K hK
  refine callL rfl (hpl) uTS uTS uTS uTS uTS ?_;refine uS ?_
  refine hK _ ?_;clear hK K
  refine uA ?_
  obtain⟨gs,hgs⟩:∃g,g=ck0+1:=⟨_,rfl⟩
  obtain⟨gy,hgy⟩:∃g,g=ck0+5:=⟨_,rfl⟩
  obtain⟨gq,hgq⟩:∃g,g=ck0+10:=⟨_,rfl⟩
  refine uW ?_
  refine awp_loopW (fun q:Nat×Nat×Nat×Pl=>⟨[(1,IS raw),(2, .sl (t3s ls) false),(7, .ptO 130 gs 0 0 0),(8, .ptO 108 gy 0 0 0),(9, .ptO 109 gq 0 0 0),(10,I q.2.1)],(109,some (gq, .box [RS q.2.2.2.slots,RS q.2.2.2.bins]))::(108,some (gy, .box [.sl (nds y.nodes) false, .sl (t3s y.devs) false]))::(130,some (gs, .box [IS l',I (min q.2.2.1 l'.length:Nat)]))::[],q.1⟩)
   (fun q=>q.2.1<=5/\PInv y q.2.2.2 (upF 1 m)) (fun q=>5 - q.2.1) (_,0,a1,p) ⟨Nat.zero_le _,hgp.inv⟩ (.of (Nat.le_refl _) (uHF1 (uI @hgs (uI @hgy @hgq))) (uWF1 (uI @hgs (uI @hgy @hgq)))) ?_
  clear hgs hgy hgq hgp hpl hlay hnew
  clear p a1 a0
  rintro⟨ck,i,a,p⟩ ⟨hi,hinv⟩
  simp only at hi hinv
  refine uA ?_
  refine uW ?_;refine condP _ rfl (fun h9=>?_) (fun h9=>?_)
  ·have hi5:i<5:=by omega
   have hgl:=hg.g.len
   have hcm:=commands_sat l' a y hf (by omega)
   obtain⟨hcl0,-⟩:=gC_ok hg.g l' a
   generalize gC l' a y.nodes=gc at*
   obtain⟨cs0,a2⟩:=gc
   simp only at hcm hcl0
   have hmv:=moves_sat l' a2 2 y hf (by omega) hN0 (by omega) hln
   have hfl0:=mvs_len l' y.nodes a2 2
   generalize mvs l' y.nodes a2 2=gm at*
   obtain⟨fs0,a3⟩:=gm
   simp only at hmv hfl0
   refine uD ?_;intro K hK
   refine callL rfl (hcm) uTS uTS uTS uTS uTS ?_;refine uS ?_
   refine callL rfl (hmv) uTS uTS uTS uTS uTS ?_;refine uS ?_
   refine uH ?_
   refine hK _ ?_;clear hK K
   refine awp_seq ?_
   refine awp_merge (fun q:Nat×List Int=>⟨[(1,IS raw),(2, .sl (t3s ls) false),(7, .ptO 130 gs 0 0 0),(8, .ptO 108 gy 0 0 0),(9, .ptO 109 gq 0 0 0),(10,I i),(11,IS q.2),(12, .sl (t3s fs0) false)],(109,some (gq, .box [RS p.slots,RS p.bins]))::(108,some (gy, .box [.sl (nds y.nodes) false, .sl (t3s y.devs) false]))::(130,some (gs, .box [IS l',I (min a3 l'.length:Nat)]))::[],q.1⟩) (fun q=>q.2.length<=1000) ?_ ?_
   ·by_cases c4:i=4
    ·have d4:decide ((i:Int)=4)=true:=decide_eq_true (by omega)
     repeat first|refine uC ?_|refine uA1 @d4 ?_
     refine⟨(_,raw),by simp only;omega,uKF⟩
    ·have d4:decide ((i:Int)=4)=false:=decide_eq_false (by omega)
     repeat first|refine uC ?_|refine uA1 @d4 ?_
     refine uW ?_
     refine⟨(_,cs0),by simp only;omega,uKF⟩
   ·rintro⟨ck2,cs⟩ hcl
    simp only at hcl
    refine awp_seq ?_
    refine awp_merge (fun q:Nat×List T3=>⟨[(1,IS raw),(2, .sl (t3s ls) false),(7, .ptO 130 gs 0 0 0),(8, .ptO 108 gy 0 0 0),(9, .ptO 109 gq 0 0 0),(10,I i),(11,IS cs),(12, .sl (t3s q.2) false)],(109,some (gq, .box [RS p.slots,RS p.bins]))::(108,some (gy, .box [.sl (nds y.nodes) false, .sl (t3s y.devs) false]))::(130,some (gs, .box [IS l',I (min a3 l'.length:Nat)]))::[],q.1⟩) (fun q=>q.2.length<=1000) ?_ ?_
    ·by_cases c4:i=3
     ·have d4:decide ((i:Int)=3)=true:=decide_eq_true (by omega)
      repeat first|refine uC ?_|refine uA1 @d4 ?_
      refine⟨(_,ls),by simp only;omega,uKF⟩
     ·have d4:decide ((i:Int)=3)=false:=decide_eq_false (by omega)
      repeat first|refine uC ?_|refine uA1 @d4 ?_
      refine uW ?_
      refine⟨(_,fs0),by simp only;omega,uKF⟩
    ·rintro⟨ck3,fs⟩ hfl
     simp only at hfl
     clear hcm hmv hcl0 hfl0
     by_cases hp0:possR y.nodes cs fs=0
     ·obtain⟨hcl1,hck,hft,hf4⟩:=poss_inv hp0
      have hsx:Sx A n y p cs fs:=⟨hg.g,hinv.fp,hft.fit hfl,by omega,fun t ht=>hck t (by omega)⟩
      have hs1:=gstep_sat hg hsx hinv hp0
      have hs2:=rstep_ok hsx hinv hL hft.dup hg.sml hg.val hfl hp0
      have hinv2:=step_inv hsx hinv hL
      have hml:=step_moved_len hsx
      generalize stepY y p cs fs=r at*
      obtain⟨q,mv⟩:=r
      simp only at hs1 hs2 hinv2 hml
      have hsame:=gsame_sat hinv2
      refine uR ?_;intro K hK
      refine callP uTS (hs1) uTS uTS uTS ?_;refine uS ?_
      refine uH ?_
      refine hK _ ?_;clear hK K
      refine uR ?_;intro K hK
      refine callP uTS (hs2) uTS uTS uTS ?_;refine uS ?_
      refine uH ?_
      refine hK _ ?_;clear hK K
      refine uR ?_;intro K hK
      refine callF uTS (hsame) uTS uTS uTS ?_;refine uS ?_
      refine uH ?_
      refine hK _ ?_;clear hK K
      refine uF ?_
      refine uA ?_
      refine uW ?_
      refine awp_loopW (fun k:Nat×Nat=>⟨[(1,IS raw),(2, .sl (t3s ls) false),(7, .ptO 130 gs 0 0 0),(8, .ptO 108 gy 0 0 0),(9, .ptO 109 gq 0 0 0),(10,I i),(13, .ptO 113 (ck3+9) 0 0 0),(14, .sl (t3s mv) false),(17, .sl (t3s mv) false),(18,I 0),(19,I k.2)],(113,some (ck3+9, .box [RS q.slots,RS q.bins]))::(109,some (gq, .box [RS p.slots,RS p.bins]))::(108,some (gy, .box [.sl (nds y.nodes) false, .sl (t3s y.devs) false]))::(130,some (gs, .box [IS l',I (min a3 l'.length:Nat)]))::[],k.1⟩)
       (fun k=>k.2<=mv.length) (fun k=>mv.length - k.2) (_,0) (Nat.zero_le _) (uKF) ?_
      rintro⟨ck4,k⟩ hk
      simp only at hk
      refine uA ?_
      refine uW ?_;refine condP _ rfl (fun hkm=>?_) (fun hkm=>?_)
      ·have hlt:k<mv.length:=by omega
       generalize e6:mv.getD k default=z at*
       refine uE1 (uI (t3s_getD hlt) (uI @e6 @Bool.true_and)) ?_;intro K hK
       refine uH ?_
       refine hK _ ?_;clear hK K
       refine uF ?_
       repeat refine uA ?_
       refine⟨(_,k+1),by simp only;omega,by simp only;omega,uKF⟩
      ·refine awp_exit ?_
       repeat refine uA ?_
       refine uT ?_
       repeat refine uA ?_
       refine⟨(_,i+1,a3,q),⟨by simp only;omega,hinv2⟩,by simp only;omega,uKF⟩
     ·have hs1:=pstep_bad y p cs fs hg.sml hg.val hg.g.ex hinv.fp hcl hfl hp0
      have hs2:=rstep_bad y p cs fs (by omega) hcl hfl hinv.fp.ex hp0
      have hsame:=same_sat (Pl.mk [] []) (Pl.mk [] []) (by simp) (by simp) (by simp) (by simp) (by simp) (by simp)
      rw[decide_eq_true ⟨rfl,rfl⟩] at hsame
      generalize possR y.nodes cs fs=er at*
      have de:decide (er=0)=false:=decide_eq_false hp0
      refine uR ?_;intro K hK
      refine callP uTS (hs1) uTS uTS uTS ?_;refine uS ?_
      refine uH ?_
      refine hK _ ?_;clear hK K
      refine uR ?_;intro K hK
      refine callP uTS (hs2) uTS uTS uTS ?_;refine uS ?_
      refine uH ?_
      refine hK _ ?_;clear hK K
      refine uR ?_;intro K hK
      refine callF uTS (hsame) uTS uTS uTS ?_;refine uS ?_
      refine uH ?_
      refine hK _ ?_;clear hK K
      refine uF ?_
      refine uA ?_
      refine uW ?_
      refine awp_loopW (fun k:Nat=>⟨[(1,IS raw),(2, .sl (t3s ls) false),(7, .ptO 130 gs 0 0 0),(8, .ptO 108 gy 0 0 0),(9, .ptO 109 gq 0 0 0),(10,I i),(14, .sl [] false),(18,I er),(19,I 0)],(109,some (gq, .box [RS p.slots,RS p.bins]))::(108,some (gy, .box [.sl (nds y.nodes) false, .sl (t3s y.devs) false]))::(130,some (gs, .box [IS l',I (min a3 l'.length:Nat)]))::[],k⟩)
       (fun _=>True) (fun _=>0) _ trivial (uKF) ?_
      rintro ck4 -
      have dz:decide ((0:Int)<((0:Nat):Int))=false:=rfl
      refine uA1 @dz ?_
      refine uF ?_
      refine awp_exit ?_
      repeat refine uA1 @de ?_
      refine uF ?_
      repeat refine uA ?_
      refine⟨(_,i+1,a3,p),⟨by simp only;omega,hinv⟩,by simp only;omega,uKF⟩
  ·refine awp_exit ?_
   refine uR ?_;intro K hK
   refine callF uTS (haw) uTS uTS uTS ?_;refine uS ?_
   refine hK _ ?_;clear hK K
   (refine awp_ret (ret1 uRT ?_);try rfl)
def nlL (n:Nat):List AV:=List.replicate n (.sl [] true)
theorem nl_length (n:Nat):(nlL n).length=n:=by simp[nlL]
theorem nl_snoc (n:Nat):nlL n++[.sl [] true]=nlL (n+1):=by simp[nlL,List.replicate_succ']
theorem nl_all {f:AV->Prop} (n:Nat) (h:f (.sl [] true)):(∀e∈nlL n,∀c∈e.cells,f c)=True:=by
 refine eq_true fun e he c hc=>?_
 obtain rfl:=(List.mem_replicate.1 he).2
 rw[show(AV.sl [] true).cells=[.sl [] true] from rfl,List.mem_singleton] at hc
 rw[hc];exact h
theorem nl_cells (n:Nat):(∀y∈nlL n,y.cells.length=1)=True:=by
 refine eq_true fun e he=>?_
 obtain rfl:=(List.mem_replicate.1 he).2
 rfl
theorem nl_map {f:AV->AV} {v:AV} (n:Nat) (h:f (.sl [] true)=v):(nlL n).map (mapc f)=List.replicate n v:=by
 rw[nlL,List.map_replicate]
 congr 1
theorem nl_fm {f:AV->List Nat} (n:Nat) (h:f (.sl [] true)=[]):((nlL n).flatMap fun e=>e.cells.flatMap f)=[]:=by
 refine fm_nil fun e he=>?_
 obtain rfl:=(List.mem_replicate.1 he).2
 show(List.flatMap f [.sl [] true])=[]
 simp[h]
theorem rep_rows (n:Nat):List.replicate n (AV.sl [] false)=rows (List.replicate n []):=by simp[rows,ints]
theorem nl_fz (k n:Nat) (hp:Hp):(nlL n).map (mapc (fz k hp))=rows (List.replicate n []):=by rw[nl_map n (fz_sl k hp [] true),rep_rows]
theorem nl_fzP (k n:Nat) (hp:Hp):(∀e∈nlL n,∀c∈e.cells,fzP k hp c)=True:=nl_all n (by cases k<;>trivial)
theorem nl_fzR (k n:Nat) (hp:Hp):((nlL n).flatMap fun e=>e.cells.flatMap (fzR k hp))=[]:=nl_fm n (by cases k<;>rfl)
attribute [go_sem] nl_length nl_snoc nl_cells nl_fz nl_fzP nl_fzR
def emptyP (xs:List Nd) (k:Nat):Pl:=⟨(List.range k).map fun i=>List.replicate (xs.getD i default).ln.toNat 0,List.replicate k []⟩
theorem emptyP_succ (xs:List Nd) (k:Nat):(emptyP xs (k+1)).slots=(emptyP xs k).slots++[List.replicate (xs.getD k default).ln.toNat 0]:=by simp[emptyP,List.range_succ]
theorem emptyP_len (xs:List Nd) (k:Nat):(emptyP xs k).slots.length=k/\(emptyP xs k).bins.length=k:=by simp[emptyP]
def newP (y:Ly):Pl:=if validE y=0 then emptyP y.nodes y.nodes.length else⟨[],[]⟩
theorem pnew_sat (y:Ly) (hs:Sml7 y) (hn0:validE y=0->0<y.nodes.length):SatG Tryz.prog tab 31 [] [y.av] [] (.tup [(newP y).av,I (validE y)]):=by
 have h1:=validate_sat y hs
 have hE:newP y=_:=newP.eq_1 y
 have hln:=fun h:validE y=0=>fun i hi=>(⟨(nodeE_len (validE_nodes h i hi)).1,(nodeE_len (validE_nodes h i hi)).2.1⟩:0<=(y.nodes.getD i default).ln/\(y.nodes.getD i default).ln<=8)
 have hN:=hs.n
 generalize newP y=r at*
 generalize validE y=v at*
 refine uFN Tryz.func31 Tryz.ntmps31 ?_;intro w e X hC
 refine uA ?_
 refine uR ?_;intro K hK
 refine callF uTS (h1) uTS uTS uTS ?_;refine uS ?_
 refine hK _ ?_;clear hK K
 repeat refine uA ?_
 refine uW ?_;refine condP _ rfl (fun c=>?_) (fun c=>?_)
 ·rw[if_neg c] at hE
  subst hE
  repeat refine uA ?_
  refine awp_ret ?_;rw[show Tryz.f31.results.toList=[.cell 2 34, .tmp 3] from rfl];first|refine uRN ?_|exact uRM
  rfl
 ·have c':=Decidable.byContradiction c
  rw[if_pos c'] at hE
  replace hln:=hln c'
  replace hn0:=hn0 c'
  subst hE
  repeat refine uA ?_
  refine uW ?_
  refine awp_loopW (fun q:Nat×Nat×Nat×Nat=>⟨[(1, .ptO 101 1 0 0 0),(2, .ptO 102 2 0 0 0),(5, .ptO 105 9 0 0 0),(15, .sl (nds y.nodes) false),(16,I y.nodes.length),(17,I q.2.1)],
   (105,some (9, .box [nilC q.2.1 (.slO 127 q.2.2.1 0 q.2.1),nilC q.2.1 (.slO 132 q.2.2.2 0 q.2.1)]))::(127,nilH q.2.1 (q.2.2.1, .own 22 1 (krows 3 (emptyP y.nodes q.2.1).slots)))::(132,nilH q.2.1 (q.2.2.2, .own 22 1 (nlL q.2.1)))::(102,some (2, .box [.sl [] true, .sl [] true]))::(101,some (1, .box [.sl (nds y.nodes) false, .sl (t3s y.devs) false]))::[],q.1⟩)
   (fun q=>q.2.1<=y.nodes.length) (fun q=>y.nodes.length - q.2.1) (_,0,0,0) (Nat.zero_le _) (uKF) ?_
  rintro⟨ck,i,g1,g2⟩ hi
  simp only at hi
  obtain⟨hol,-⟩:=emptyP_len y.nodes i
  have e1:=emptyP_succ y.nodes i
  repeat refine uA ?_
  refine uW ?_;refine condP _ rfl (fun h=>?_) (fun h=>?_)
  ·have hlt:i<y.nodes.length:=by omega
   have hli:=hln i hlt
   generalize (emptyP y.nodes i).slots=o at*
   generalize e2:y.nodes.getD i default=x at*
   obtain⟨m,hm⟩:∃m:Nat,m=x.ln.toNat:=⟨_,rfl⟩
   have hmm:x.ln=(m:Int):=by omega
   rw[<-hm] at e1
   by_cases hi0:i=0
   ·subst hi0
    simp only[nilC_z,nilH_z]
    obtain rfl:o=[]:=List.length_eq_zero_iff.1 hol
    repeat refine uA1 (uI (nds_getD hlt) (uI @e2 @hmm)) ?_
    refine uD1 @krows_one ?_;intro K hK
    refine uH ?_
    refine hK _ ?_;clear hK K
    repeat refine uA ?_
    refine⟨(_,0+1,ck+11,ck+17),by simp only;omega,by simp only;omega, .of (Nat.le_refl _) (uHF1 (uI @e1 (uI @nilC_s @nilH_s))) uWF⟩
   ·simp only[nilC_p hi0,nilH_p hi0]
    repeat refine uA1 (uI (nds_getD hlt) (uI @e2 (uI @hmm @hol))) ?_
    refine uD1 @hol ?_;intro K hK
    refine uH ?_
    refine hK _ ?_;clear hK K
    repeat refine uA ?_
    refine⟨(_,i+1,g1,g2),by simp only;omega,by simp only;omega, .of (Nat.le_refl _) (uHF1 (uI @e1 (uI @nilC_s @nilH_s))) uWF⟩
  ·refine awp_exit ?_
   obtain rfl:i=y.nodes.length:=by omega
   have hnz:y.nodes.length≠0:=by omega
   simp only[nilC_p hnz,nilH_p hnz]
   repeat refine uA ?_
   refine awp_ret ?_;rw[show Tryz.f31.results.toList=[.cell 2 34, .tmp 3] from rfl];first|refine uRN1 @hol ?_|exact uRM1 @hol
   rw[c']
   rfl
open Go.Plant
def whereQ (p:Pl) (b:Int):Int×Int×Bool:=if b=0 then(0,0,false) else whereP p b
theorem idxR_sym {l:List Int} {b:Int}:idxR (fun y=>decide (b=y)) l=idxR (fun y=>decide (y=b)) l:=by
 have:(fun y:Int=>decide (b=y))=fun y=>decide (y=b):=by
  funext y
  by_cases h:b=y
  ·subst h;rfl
  ·rw[decide_eq_false h,decide_eq_false (fun h2=>h h2.symm)]
 rw[this]
theorem idxR_mem {l:List Int} {b:Int}:(b∈l/\∃k:Nat,k<l.length/\idxR (fun y=>decide (y=b)) l=k/\(l.findIdx? fun x=>decide (x=b))=some k)\/(b∉l/\idxR (fun y=>decide (y=b)) l=-1):=by
 by_cases h:b∈l
 ·refine .inl ⟨h,?_⟩
  cases hf:(l.findIdx? fun x=>decide (x=b)) with
  |none=>
   rw[List.findIdx?_eq_none_iff] at hf
   have:=hf b h
   simp at this
  |some k=>
   have h2:=hf
   rw[List.findIdx?_eq_some_iff_getElem] at h2
   obtain⟨h3,_⟩:=h2
   exact⟨k,h3,by rw[idxR,hf],rfl⟩
 ·refine .inr ⟨h,?_⟩
  have:(l.findIdx? fun x=>decide (x=b))=none:=by
   rw[List.findIdx?_eq_none_iff]
   intro x hx
   simp only[decide_eq_false_iff_not]
   rintro rfl
   exact h hx
  rw[idxR,this]
theorem pwhere_sat (p:Pl) (b:Int) (h1:p.slots.length<=1000) (h2:p.bins.length<=1000) (h3:∀i,i<p.slots.length->(p.slots.getD i []).length<=1000) (h4:∀i,i<p.bins.length->(p.bins.getD i []).length<=1000):
  SatG Tryz.prog tab 39 [] [p.av,I b] [] (whereAV (whereQ p b)):=by
 refine uFN Tryz.func39 Tryz.ntmps39 ?_;intro w e X hC
 repeat refine uA ?_
 refine uW ?_;refine condP _ rfl (fun c0=>?_) (fun c0=>?_)
 ·have hE:whereQ p b=(0,0,false):=if_pos c0
  rw[hE]
  repeat refine uA ?_
  refine awp_ret ?_;rw[show Tryz.f39.results.toList=[.cell 4 52, .tmp 5] from rfl];first|refine uRN ?_|exact uRM
 ·have hE:whereQ p b=whereP p b:=if_neg c0
  rw[hE]
  repeat refine uA ?_
  refine uW ?_
  refine awp_loopW (fun q:Nat×Nat=>⟨[(1,I b),(2, .ptO 102 1 0 0 0),(4, .ptO 104 2 0 0 0),(15,RS p.slots),(16,I p.slots.length),(17,I q.2)],(102,some (1, .box [RS p.slots,RS p.bins]))::(104,some (2, .box [I 0,I 0]))::[],q.1⟩) (fun q=>q.2<=p.slots.length/\∀j,j<q.2->b∉p.slots.getD j []) (fun q=>p.slots.length - q.2) (_,0) ⟨Nat.zero_le _,fun j hj=>absurd hj (Nat.not_lt_zero _)⟩ (uKF) ?_
  rintro⟨ck,i⟩ ⟨hi,hj⟩
  simp only at hi hj
  repeat refine uA ?_
  refine uW ?_;refine condP _ rfl (fun h=>?_) (fun h=>?_)
  ·have hlt:i<p.slots.length:=by omega
   have hri:=h3 i hlt
   have hfr:=fun h=>fR_some hlt h hj
   have hgd:b∉p.slots.getD i []->∀j,j<i+1->b∉p.slots.getD j []:=fun h j hj'=>by
    by_cases hji:j=i
    ·subst hji;exact h
    ·exact hj j (by omega)
   have hix:=idxR_mem (l:=p.slots.getD i []) (b:=b)
   have hgi:(p.slots.findIdx? fun r=>decide (b∈r))=some i->whereP p b=((i:Int),((((p.slots.getD i []).findIdx? fun x=>decide (x=b)).getD 0:Nat):Int),true):=fun h=>by rw[whereP,if_neg c0,h]
   generalize e1:p.slots.getD i []=sl at*
   have hsat:=indexI_sat sl b (by omega)
   rw[idxR_sym] at hsat
   generalize idxR (fun y=>decide (y=b)) sl=ix at*
   refine uA1 (uI (rows_getD hlt) @e1) ?_
   refine uR ?_;intro K hK
   refine callF uTS (hsat) uTS uTS uTS ?_;refine uS ?_
   refine hK _ ?_;clear hK K
   repeat refine uA ?_
   rcases hix with ⟨hm,k,hk,rfl,hf⟩|⟨hm,rfl⟩
   ·have hw:=hgi (hfr hm)
    rw[hf] at hw
    rw[hw]
    refine uW ?_;refine condP _ rfl (fun h5=>?_) (fun h5=>?_)
    ·repeat refine uA ?_
     refine awp_ret ?_;rw[show Tryz.f39.results.toList=[.cell 4 52, .tmp 5] from rfl];first|refine uRN ?_|exact uRM
    ·omega
   ·refine uW ?_;refine condP _ rfl (fun h5=>?_) (fun h5=>?_)
    ·omega
    ·repeat refine uA ?_
     refine⟨(_,i+1),⟨by simp only;omega,hgd hm⟩,by simp only;omega,uKF⟩
  ·refine awp_exit ?_
   obtain rfl:i=p.slots.length:=by omega
   have hno:=fR_none hj
   have hgi:whereP p b=(match p.bins.findIdx? fun r=>decide (b∈r) with|some n=>((n:Int),-1,true)|none=>(0,0,false)):=by rw[whereP,if_neg c0,hno];rfl
   rw[hgi]
   repeat refine uA ?_
   refine uW ?_
   refine awp_loopW (fun q:Nat×Nat=>⟨[(1,I b),(2, .ptO 102 1 0 0 0),(4, .ptO 104 2 0 0 0),(32,RS p.bins),(33,I p.bins.length),(34,I q.2)],(102,some (1, .box [RS p.slots,RS p.bins]))::(104,some (2, .box [I 0,I 0]))::[],q.1⟩) (fun q=>q.2<=p.bins.length/\∀j,j<q.2->b∉p.bins.getD j []) (fun q=>p.bins.length - q.2) (_,0) ⟨Nat.zero_le _,fun j hj=>absurd hj (Nat.not_lt_zero _)⟩ (uKF) ?_
   rintro⟨ck2,i⟩ ⟨hi,hj2⟩
   simp only at hi hj2
   repeat refine uA ?_
   refine uW ?_;refine condP _ rfl (fun h5=>?_) (fun h5=>?_)
   ·have hlt:i<p.bins.length:=by omega
    have hri:=h4 i hlt
    have hfr:=fun h=>fR_some hlt h hj2
    have hgd:b∉p.bins.getD i []->∀j,j<i+1->b∉p.bins.getD j []:=fun h j hj'=>by
     by_cases hji:j=i
     ·subst hji;exact h
     ·exact hj2 j (by omega)
    generalize e1:p.bins.getD i []=sl at*
    have hsat:=containsI_sat sl b (by omega)
    have hany:sl.any (fun y=>decide (b=y))=decide (b∈sl):=by
     rw[Bool.eq_iff_iff,List.any_eq_true,decide_eq_true_eq]
     constructor
     ·rintro⟨z,hz,h⟩
      rw[decide_eq_true_eq] at h
      rw[h];exact hz
     ·intro h;exact⟨b,h,by simp⟩
    rw[hany] at hsat
    refine uA1 (uI (rows_getD hlt) @e1) ?_
    refine uR ?_;intro K hK
    refine callF uTS (hsat) uTS uTS uTS ?_;refine uS ?_
    refine hK _ ?_;clear hK K
    refine uW ?_;refine condP _ rfl (fun h6=>?_) (fun h6=>?_)
    ·have:=hfr h6
     rw[this]
     repeat refine uA ?_
     refine awp_ret ?_;rw[show Tryz.f39.results.toList=[.cell 4 52, .tmp 5] from rfl];first|refine uRN ?_|exact uRM
    ·repeat refine uA ?_
     refine⟨(_,i+1),⟨by simp only;omega,hgd h6⟩,by simp only;omega,uKF⟩
   ·refine awp_exit ?_
    obtain rfl:i=p.bins.length:=by omega
    rw[fR_none hj2]
    repeat refine uA ?_
    refine awp_ret ?_;rw[show Tryz.f39.results.toList=[.cell 4 52, .tmp 5] from rfl];first|refine uRN ?_|exact uRM
def pushOk (s:List Int) (b:Int):Bool:=!(decide (s.length=0)||(decide (¬s.getD 0 0=0)||decide (b=0)))
theorem push_ok (s:List Int) (b:Int) (hs:s.length<=1000) (h:pushOk s b=true):SatG Tryz.prog tab 68 [] [IS s,I b] [(100,some (1, .own 3 1 (ints (s.set 0 b))))] (.tup [.slO 100 1 0 s.length,B true]):=by
 simp only[pushOk,Bool.not_eq_true',Bool.or_eq_false_iff,decide_eq_false_iff_not] at h
 obtain⟨h0,h1,h2⟩:=h
 have d0:decide ((s.length:Int)=0)=false:=decide_eq_false (by omega)
 have d1:decide (¬s.getD 0 0=0)=false:=decide_eq_false h1
 have d2:decide (b=0)=false:=decide_eq_false h2
 have hl0:0<s.length:=by omega
 refine uFN Tryz.func68 Tryz.ntmps68 ?_;intro w e X hC
 repeat refine uA ?_
 refine uR1 (uI @d0 (uI (ints_getD hl0) (uI @Int.toNat_zero (uI @d1 @d2)))) ?_;intro K hK
 refine uH ?_
 refine hK _ ?_;clear hK K
 refine uF ?_
 refine uR ?_;intro K hK
 refine callE [] [(121,17,100,1)] false ((clone_sat s hl0 hs)) uTR uTR uTE uTE uTE uTE uTE uTE uTE uTE uTE uTE uTE uTE uTE uTE uTE ?_;refine uQS ?_
 refine hK _ ?_;clear hK K
 repeat refine uA ?_
 refine awp_ret ?_;rw[show Tryz.f68.results.toList=[.tmp 4, .tmp 5] from rfl];(refine retG [(100,1,121,17)] uRG (by simp) (by simp) (by simp) uTG uTG uTG ?_ ?_;all_goals (first|refine uSG ?_|exact uXG|skip))
theorem push_bad (s:List Int) (b:Int) (hs:s.length<=1000) (h:pushOk s b=false):SatG Tryz.prog tab 68 [] [IS s,I b] [] (.tup [.sl [] false,B false]):=by
 simp only[pushOk,Bool.not_eq_false',Bool.or_eq_true,decide_eq_true_eq] at h
 refine uFN Tryz.func68 Tryz.ntmps68 ?_;intro w e X hC
 repeat refine uA ?_
 by_cases h0:s.length=0
 ·have d0:decide ((s.length:Int)=0)=true:=decide_eq_true (by omega)
  refine uR1 @d0 ?_;intro K hK
  refine hK _ ?_;clear hK K
  refine uT ?_
  repeat refine uA ?_
  refine awp_ret ?_;rw[show Tryz.f68.results.toList=[.tmp 4, .tmp 5] from rfl];first|refine uRN ?_|exact uRM
 have d0:decide ((s.length:Int)=0)=false:=decide_eq_false (by omega)
 have hl0:0<s.length:=by omega
 by_cases h1:s.getD 0 0=0
 ·have d1:decide (¬s.getD 0 0=0)=false:=decide_eq_false (fun h=>h h1)
  have d2:decide (b=0)=true:=decide_eq_true ((h.resolve_left h0).resolve_left (fun h=>h h1))
  refine uR1 (uI @d0 (uI (ints_getD hl0) (uI @Int.toNat_zero (uI @d1 @d2)))) ?_;intro K hK
  refine uH ?_
  refine hK _ ?_;clear hK K
  refine uT ?_
  repeat refine uA ?_
  refine awp_ret ?_;rw[show Tryz.f68.results.toList=[.tmp 4, .tmp 5] from rfl];first|refine uRN ?_|exact uRM
 ·have d1:decide (¬s.getD 0 0=0)=true:=decide_eq_true h1
  refine uR1 (uI @d0 (uI (ints_getD hl0) (uI @Int.toNat_zero @d1))) ?_;intro K hK
  refine uH ?_
  refine hK _ ?_;clear hK K
  refine uT ?_
  repeat refine uA ?_
  refine awp_ret ?_;rw[show Tryz.f68.results.toList=[.tmp 4, .tmp 5] from rfl];first|refine uRN ?_|exact uRM
def enterR (y:Ly) (p:Pl) (node bag:Int):Pl×Int:=
 if node<0\/y.nodes.length<=node\/bag<1\/40<bag then(⟨[],[]⟩,1)
 else if ¬(y.nodes.getD node.toNat default).kd=1 then(⟨[],[]⟩,4)
 else if(whereP p bag).2.2=true then(⟨[],[]⟩,5)
 else if ¬(p.slots.getD node.toNat []).getD 0 0=0 then(⟨[],[]⟩,8)
 else(⟨p.slots.set node.toNat ((p.slots.getD node.toNat []).set 0 bag),p.bins⟩,0)
theorem penter_sat (y:Ly) (p:Pl) (node bag:Int) (hp:FitP y.nodes p):SatG Tryz.prog tab 37 [] [y.av,p.av,I node,I bag] [] (.tup [(enterR y p node bag).1.av,I (enterR y p node bag).2]):=by
 have hxl:=hp.xl
 have hsl:=hp.sl
 have hbl:=hp.bl
 have hr1:∀i,i<p.slots.length->(p.slots.getD i []).length<=1000:=fun i hi=>by
  rw[hp.sl] at hi
  have:=hp.row i hi;have:=hp.ln i hi;omega
 have hr2:∀i,i<p.bins.length->(p.bins.getD i []).length<=1000:=fun i hi=>by
  rw[hp.bl] at hi
  have:=hp.bin i hi;omega
 have hwh:=pwhere_sat p bag (by omega) (by omega) hr1 hr2
 have hcl:=clone69_sat p (by omega) (by omega) hr1 hr2
 have hE:enterR y p node bag=_:=enterR.eq_1 y p node bag
 generalize enterR y p node bag=r at*
 refine uFN Tryz.func37 Tryz.ntmps37 ?_;intro w e X hC
 repeat refine uA ?_
 cases d1:decide (node<0) with
 |true=>
  rw[if_pos (.inl (of_decide_eq_true d1))] at hE
  subst hE
  refine uR1 @d1 ?_;intro K hK
  refine hK _ ?_;clear hK K
  refine uT ?_
  repeat refine uA ?_
  refine awp_ret ?_;rw[show Tryz.f37.results.toList=[.cell 8 34, .tmp 9] from rfl];first|refine uRN ?_|exact uRM
  rfl
 |false=>
 have g1:=of_decide_eq_false d1
 cases d2:decide ((y.nodes.length:Int)<=node) with
 |true=>
  rw[if_pos (.inr (.inl (of_decide_eq_true d2)))] at hE
  subst hE
  refine uR1 (uI @d1 @d2) ?_;intro K hK
  refine hK _ ?_;clear hK K
  refine uT ?_
  repeat refine uA ?_
  refine awp_ret ?_;rw[show Tryz.f37.results.toList=[.cell 8 34, .tmp 9] from rfl];first|refine uRN ?_|exact uRM
  rfl
 |false=>
 have g2:=of_decide_eq_false d2
 cases d3:decide (bag<1) with
 |true=>
  rw[if_pos (.inr (.inr (.inl (of_decide_eq_true d3))))] at hE
  subst hE
  refine uR1 (uI @d1 (uI @d2 @d3)) ?_;intro K hK
  refine hK _ ?_;clear hK K
  refine uT ?_
  repeat refine uA ?_
  refine awp_ret ?_;rw[show Tryz.f37.results.toList=[.cell 8 34, .tmp 9] from rfl];first|refine uRN ?_|exact uRM
  rfl
 |false=>
 have g3:=of_decide_eq_false d3
 cases d4:decide (40<bag) with
 |true=>
  rw[if_pos (.inr (.inr (.inr (of_decide_eq_true d4))))] at hE
  subst hE
  refine uR1 (uI @d1 (uI @d2 (uI @d3 @d4))) ?_;intro K hK
  refine hK _ ?_;clear hK K
  refine uT ?_
  repeat refine uA ?_
  refine awp_ret ?_;rw[show Tryz.f37.results.toList=[.cell 8 34, .tmp 9] from rfl];first|refine uRN ?_|exact uRM
  rfl
 |false=>
 have g4:=of_decide_eq_false d4
 rw[if_neg (fun h=>by rcases h with h|h|h|h<;>omega)] at hE
 obtain⟨m,hm⟩:∃m,m=node.toNat:=⟨_,rfl⟩
 have hmm:node=(m:Int):=by omega
 rw[<-hm] at hE
 subst hmm
 have hmn:m<y.nodes.length:=by omega
 have hms:m<p.slots.length:=by omega
 have hst:=hp.st m hmn
 have hrow:=hp.row m hmn
 have hrl:=hr1 m hms
 have hw:whereQ p bag=whereP p bag:=if_neg (by omega)
 rw[hw] at hwh
 generalize whereP p bag=wq at*
 obtain⟨q1,q2,q3⟩:=wq
 simp only at hE hwh
 generalize e2:y.nodes.getD m default=x at*
 generalize e3:p.slots.getD m []=sl at*
 refine uR1 (uI @d1 (uI @d2 (uI @d3 @d4))) ?_;intro K hK
 refine hK _ ?_;clear hK K
 refine uF ?_
 repeat refine uA1 (uI (nds_getD hmn) @e2) ?_
 refine uW ?_;refine condP _ rfl (fun c1=>?_) (fun c1=>?_)
 ·rw[if_pos c1] at hE
  subst hE
  repeat refine uA ?_
  refine awp_ret ?_;rw[show Tryz.f37.results.toList=[.cell 8 34, .tmp 9] from rfl];first|refine uRN ?_|exact uRM
  rfl
 rw[if_neg c1] at hE
 have c1':x.kd=1:=Decidable.byContradiction c1
 have hl0:0<sl.length:=by have:=hst (by rw[c1'];decide);omega
 refine uR ?_;intro K hK
 refine callP uTS (hwh) uTS uTS uTS ?_;refine uS ?_
 refine hK _ ?_;clear hK K
 repeat refine uA ?_
 cases q3 with
 |true=>
  rw[if_pos rfl] at hE
  subst hE
  refine uT ?_
  repeat refine uA ?_
  refine awp_ret ?_;rw[show Tryz.f37.results.toList=[.cell 8 34, .tmp 9] from rfl];first|refine uRN ?_|exact uRM
  rfl
 |false=>
 rw[if_neg (by decide)] at hE
 refine uF ?_
 repeat refine uA ?_
 refine uW ?_;refine condP _ rfl (fun c2=>?_) (fun c2=>?_)
 ·omega
 by_cases c3:sl.getD 0 0=0
 ·rw[if_neg (fun h=>h c3)] at hE
  subst hE
  have hpu:=push_ok sl bag hrl (by
   simp only[pushOk,Bool.not_eq_true',Bool.or_eq_false_iff,decide_eq_false_iff_not]
   exact⟨by omega,fun h=>h c3,by omega⟩)
  refine uR1 (uI (rows_getD hms) @e3) ?_;intro K hK
  refine uH ?_
  refine callE [] [(162,50,100,1)] false (hpu) uTR uTR uTE uTE uTE uTE uTE uTE uTE uTE uTE uTE uTE uTE uTE uTE uTE ?_;refine uQS ?_
  refine hK _ ?_;clear hK K
  repeat refine uA ?_
  refine uF ?_
  refine uR ?_;intro K hK
  have z:=@Bool.or_true;refine callE [] [(169,59,100,1),(401,59,101,1)] false (hcl) (uTR1 z) (uTR1 z) (uTE1 z) (uTE1 z) (uTE1 z) (uTE1 z) (uTE1 z) (uTE1 z) (uTE1 z) (uTE1 z) (uTE1 z) (uTE1 z) (uTE1 z) (uTE1 z) (uTE1 z) (uTE1 z) (uTE1 z) ?_;refine uQS1 z ?_;clear z
  refine hK _ ?_;clear hK K
  repeat refine uA ?_
  refine awp_ret ?_;rw[show Tryz.f37.results.toList=[.cell 8 34, .tmp 9] from rfl];first|refine uRN ?_|exact uRM
 ·rw[if_pos c3] at hE
  subst hE
  have hpu:=push_bad sl bag hrl (by
   simp only[pushOk,Bool.not_eq_false',Bool.or_eq_true,decide_eq_true_eq]
   exact .inr (.inl c3))
  refine uR1 (uI (rows_getD hms) @e3) ?_;intro K hK
  refine uH ?_
  refine callP uTS (hpu) uTS uTS uTS ?_;refine uS ?_
  refine hK _ ?_;clear hK K
  repeat refine uA ?_
  refine uT ?_
  repeat refine uA ?_
  refine awp_ret ?_;rw[show Tryz.f37.results.toList=[.cell 8 34, .tmp 9] from rfl];first|refine uRN ?_|exact uRM
  rfl
open Go.Plant
def strs (l:List ByteArray):List AV:=l.map S
theorem strs_length (l:List ByteArray):(strs l).length=l.length:=by simp[strs]
theorem strs_getD {l:List ByteArray} {i:Nat} (h:i<l.length):(strs l).getD i .bad=S (l.getD i .empty):=by simp[strs,h]
theorem PE_strs (l:List ByteArray):PE (strs l)=True:=by
 refine eq_true fun e he c hc=>?_
 simp only[strs,List.mem_map] at he
 obtain⟨x,_,rfl⟩:=he
 simp only[AV.cells,List.mem_singleton] at hc
 subst hc;trivial
theorem all_strs {l:List ByteArray}:(∀y∈strs l,y.cells.length=1)=True:=by
 refine eq_true fun e he=>?_
 simp only[strs,List.mem_map] at he
 obtain⟨x,_,rfl⟩:=he
 rfl
theorem strs_snoc {l:List ByteArray} {b:ByteArray}:strs l++[.lit (.string b)]=strs (l++[b]):=by simp[strs]
theorem lits_strs {l:List ByteArray}:(∀e∈strs l,∀c∈e.cells,isLit c)=True:=by
 refine eq_true fun e he c hc=>?_
 simp only[strs,List.mem_map] at he
 obtain⟨x,_,rfl⟩:=he
 simp only[AV.cells,List.mem_singleton] at hc
 subst hc;trivial
theorem strs_drop {l:List ByteArray} {i:Nat}:(strs l).drop i=strs (l.drop i):=by simp[strs]
theorem strs_take {l:List ByteArray} {i:Nat}:(strs l).take i=strs (l.take i):=by simp[strs]
attribute [go_sem] strs_length PE_strs all_strs strs_snoc lits_strs
def spS (b:Nat) (c:UInt8) (o:List ByteArray×ByteArray):List ByteArray×ByteArray:=if c.toNat=b then(o.1++[o.2], .empty) else(o.1,o.2++strOf [c])
def spF (s:ByteArray) (b:Nat):Nat->List ByteArray×ByteArray
 |0=>([], .empty)
 |k+1=>spS b (s.data.toList.getD k 0) (spF s b k)
def splitR (s:ByteArray) (b:Nat):List ByteArray:=(spF s b s.data.toList.length).1++[(spF s b s.data.toList.length).2]
theorem spF_size (s:ByteArray) (b:Nat):∀k,(spF s b k).2.size<=k/\(spF s b k).1.length<=k
 |0=>by simp[spF]
 |k+1=>by
  obtain⟨h1,h2⟩:=spF_size s b k
  have h3:∀c:UInt8,(strOf [c]).size=1:=fun _=>rfl
  rw[spF]
  generalize s.data.toList.getD k 0=c
  generalize spF s b k=o at*
  unfold spS
  split
  ·refine⟨Nat.zero_le _,?_⟩
   simp only[List.length_append,List.length_singleton];omega
  ·refine⟨?_,by simp only;omega⟩
   show(o.2++strOf [c]).size<=_
   rw[ByteArray.size_append,h3];omega
theorem byte_slice {l:List UInt8} {i:Nat} (h:i<l.length):(l.take (i+1)).drop i=[l.getD i 0]:=by
 rw[take_getD (d:=0) h,List.drop_append]
 simp[List.length_take,Nat.min_eq_left (Nat.le_of_lt h)]
theorem split_sat (s:ByteArray) (b:Nat) (hs:s.data.toList.length<=5000):SatG Tryz.prog tab 72 [] [S s,U8 b] [] (.sl (strs (splitR s b)) false):=by
 have hsz:s.size=s.data.toList.length:=by rw[<-bs_size,bs_len]
 refine uFN Tryz.func72 Tryz.ntmps72 ?_;intro w e X hC
 repeat refine uA ?_
 refine uW ?_
 refine awp_loopW (fun q:Nat×Nat×Nat=>⟨[(0,S s),(1,U8 b),(5, .slO 105 q.2.2 0 (spF s b q.2.1).1.length),(6,S (spF s b q.2.1).2),(7,I q.2.1)],(105,some (q.2.2, .own 9 1 (strs (spF s b q.2.1).1)))::[],q.1⟩) (fun q=>q.2.1<=s.data.toList.length) (fun q=>s.data.toList.length - q.2.1) (_,0,_) (Nat.zero_le _) (.of (Nat.le_refl _) (by repeat first|exact HOk.nil|refine uHN ?_|(refine HOk.cons ?_ ?_;(focus (simp only[go_sem,Nat.reduceAdd,Nat.reduceSub,Nat.reduceMul,Nat.reduceLT,Nat.reduceEqDiff,Nat.reduceBEq,Nat.reduceLeDiff,Int.reduceToNat,↓reduceIte,Int.reduceEq,Int.reduceLT,Int.reduceLE,Int.reduceAdd,Int.reduceSub,Int.reduceNeg,reduceCtorEq,spF];done)))) (by repeat first|exact WOk.nil|refine uWN ?_|(refine WOk.cons ?_ ?_;(focus (simp only[go_sem,Nat.reduceAdd,Nat.reduceSub,Nat.reduceMul,Nat.reduceLT,Nat.reduceEqDiff,Nat.reduceBEq,Nat.reduceLeDiff,Int.reduceToNat,↓reduceIte,Int.reduceEq,Int.reduceLT,Int.reduceLE,Int.reduceAdd,Int.reduceSub,Int.reduceNeg,reduceCtorEq,spF];done))))) ?_
 rintro⟨ck,k,g⟩ hk
 simp only at hk
 obtain⟨hz1,hz2⟩:=spF_size s b k
 have e1:spF s b (k+1)=spS b (s.data.toList.getD k 0) (spF s b k):=rfl
 have e2:k=s.data.toList.length->splitR s b=(spF s b k).1++[(spF s b k).2]:=fun h=>by rw[h];rfl
 generalize spF s b k=o at*
 obtain⟨o1,o2⟩:=o
 simp only at hz1 hz2 e2
 refine uA1 @hsz ?_
 refine uW ?_;refine condP _ rfl (fun h=>?_) (fun h=>?_)
 ·have hlt:k<s.data.toList.length:=by omega
  have hb1:=byte_slice hlt
  have hb2:(strOf [s.data.toList.getD k 0]).size=1:=rfl
  generalize hc:s.data.toList.getD k 0=c at*
  unfold spS at e1
  simp only at e1
  refine uA1 @hc ?_
  refine uW ?_;refine condP _ rfl (fun c1=>?_) (fun c1=>?_)
  ·rw[if_pos (by omega)] at e1
   repeat refine uA ?_
   refine awp_exit ?_
   repeat refine uA ?_
   refine⟨(_,k+1,g),by simp only;omega,by simp only;omega, .of (Nat.le_refl _) (uHF1 @e1) (uWF1 (uI @e1 @List.length_singleton.{0}))⟩
  ·rw[if_neg (by omega)] at e1
   have hkt:((k:Int)+1).toNat=k+1:=by omega
   repeat refine uA1 (uI @hkt (uI @hb1 @hb2)) ?_
   refine⟨(_,k+1,g),by simp only;omega,by simp only;omega, .of (Nat.le_refl _) (uHF1 @e1) (uWF1 @e1)⟩
 ·refine awp_exit ?_
  have e3:=e2 (by omega)
  repeat refine uA ?_
  rw[e3]
  refine awp_ret ?_;rw[show Tryz.f72.results.toList=[.tmp 4] from rfl];first|refine uRN1 @List.length_singleton.{0} ?_|exact uRM1 @List.length_singleton.{0}
open Go.Plant
theorem rall_sat (s:ByteArray) (hs:(bs s).length<=5000):SatG Tryz.prog tab 154 [] [S s] [] (B ((bs s).all digB)):=by
 have hbl:=bs_len s
 have hbz:=bs_size s
 refine uFN Tryz.func154 Tryz.ntmps154 ?_;intro w e X hC
 repeat refine uA ?_
 refine uW ?_
 refine awp_loopW (fun i:Nat×Nat=>⟨[(0,S s),(3,I i.2)],[],i.1⟩) (fun i=>i.2<=(bs s).length/\∀j,j<i.2->digB ((bs s).getD j 0)=true) (fun i=>(bs s).length - i.2) (_,0) ⟨Nat.zero_le _,fun j hj=>absurd hj (Nat.not_lt_zero _)⟩ (uKF) ?_
 rintro⟨ck,i⟩ ⟨hi,hj⟩
 simp only at hi hj
 repeat ((repeat first|refine awp_seq ?_|refine awp_skip ?_|refine awp_block ?_);refine awp_region hC rfl fun K hK=>?_;simp only[go_sem,Nat.reduceAdd,Nat.reduceSub,Nat.reduceMul,Nat.reduceLT,Nat.reduceEqDiff,Nat.reduceBEq,Nat.reduceLeDiff,Int.reduceToNat,↓reduceIte,Int.reduceEq,Int.reduceLT,Int.reduceLE,Int.reduceAdd,Int.reduceSub,Int.reduceNeg,reduceCtorEq,<-hbz];(repeat ((with_reducible refine And.intro ?_ ?_);focus (((repeat' apply And.intro)<;>first|omega|(simp;done)|kernel_rfl))));refine hK _ ?_;clear hK K)
 refine uW ?_;refine condP _ rfl (fun h=>?_) (fun h=>?_)
 ·have hlt:i<(bs s).length:=by omega
  have hg:=bs_getD s i
  have hbad:digB ((bs s).getD i 0)=false->(bs s).all digB=false:=fun h=>by
   rw[List.all_eq_false];exact⟨_,mem_getD (d:=0) hlt,by rw[h];decide⟩
  have hgood:digB ((bs s).getD i 0)=true->∀j,j<i+1->digB ((bs s).getD j 0)=true:=fun h j hj'=>by
   by_cases hji:j=i
   ·subst hji;exact h
   ·exact hj j (by omega)
  generalize (bs s).getD i 0=c at*
  cases d1:decide ((c:Int)<48) with
  |true=>
   have g1:=of_decide_eq_true d1
   rw[hbad (by unfold digB;rw[decide_eq_false (by omega)];rfl)]
   (repeat first|refine awp_seq ?_|refine awp_skip ?_|refine awp_block ?_);refine awp_region hC rfl fun K hK=>?_;simp only[go_sem,Nat.reduceAdd,Nat.reduceSub,Nat.reduceMul,Nat.reduceLT,Nat.reduceEqDiff,Nat.reduceBEq,Nat.reduceLeDiff,Int.reduceToNat,↓reduceIte,Int.reduceEq,Int.reduceLT,Int.reduceLE,Int.reduceAdd,Int.reduceSub,Int.reduceNeg,reduceCtorEq,hg,<-hbl,d1]
   refine uH ?_
   refine hK _ ?_;clear hK K
   refine uT ?_
   repeat refine uA ?_
   (refine awp_ret (ret1 uRT ?_);try rfl)
  |false=>
   have g1:=of_decide_eq_false d1
   cases d2:decide (57<(c:Int)) with
   |true=>
    have g2:=of_decide_eq_true d2
    rw[hbad (by unfold digB;rw[decide_eq_false (show ¬(c:Int)<=57 by omega),Bool.and_false])]
    (repeat first|refine awp_seq ?_|refine awp_skip ?_|refine awp_block ?_);refine awp_region hC rfl fun K hK=>?_;simp only[go_sem,Nat.reduceAdd,Nat.reduceSub,Nat.reduceMul,Nat.reduceLT,Nat.reduceEqDiff,Nat.reduceBEq,Nat.reduceLeDiff,Int.reduceToNat,↓reduceIte,Int.reduceEq,Int.reduceLT,Int.reduceLE,Int.reduceAdd,Int.reduceSub,Int.reduceNeg,reduceCtorEq,hg,<-hbl,d1,d2]
    refine uH ?_
    refine hK _ ?_;clear hK K
    refine uT ?_
    repeat refine uA ?_
    (refine awp_ret (ret1 uRT ?_);try rfl)
   |false=>
    have g2:=of_decide_eq_false d2
    (repeat first|refine awp_seq ?_|refine awp_skip ?_|refine awp_block ?_);refine awp_region hC rfl fun K hK=>?_;simp only[go_sem,Nat.reduceAdd,Nat.reduceSub,Nat.reduceMul,Nat.reduceLT,Nat.reduceEqDiff,Nat.reduceBEq,Nat.reduceLeDiff,Int.reduceToNat,↓reduceIte,Int.reduceEq,Int.reduceLT,Int.reduceLE,Int.reduceAdd,Int.reduceSub,Int.reduceNeg,reduceCtorEq,hg,<-hbl,d1,d2]
    refine uH ?_
    refine hK _ ?_;clear hK K
    refine uF ?_
    repeat refine uA ?_
    refine⟨(_,i+1),⟨by simp only;omega,hgood (by unfold digB;rw[decide_eq_true (show(48:Int)<=c by omega),decide_eq_true (show(c:Int)<=57 by omega)];rfl)⟩,by simp only;omega,uKF⟩
 ·refine awp_exit ?_
  have:(bs s).all digB=true:=by
   rw[List.all_eq_true]
   intro x hx
   obtain⟨j,hj2,rfl⟩:=List.getElem_of_mem hx
   have:=hj j (by omega)
   simpa[hj2] using this
  rw[this]
  repeat refine uA ?_
  (refine awp_ret (ret1 uRT ?_);try rfl)
def valF (s:ByteArray):Nat->Int
 |0=>0
 |k+1=>valF s k*10+(((bs s).getD k 0:Nat) - 48)
theorem valF_le {s:ByteArray} (h:∀j,j<(bs s).length->digB ((bs s).getD j 0)=true):∀k,k<=(bs s).length->0<=valF s k/\valF s k<10^k
 |0,_=>by simp[valF]
 |k+1,hk=>by
  obtain⟨h1,h2⟩:=valF_le h k (by omega)
  have:=h k (by omega)
  simp only[digB,Bool.and_eq_true,decide_eq_true_eq] at this
  rw[valF,Int.pow_succ]
  omega
theorem rvalue_sat (s:ByteArray) (hs:(bs s).length<=3) (hd:∀j,j<(bs s).length->digB ((bs s).getD j 0)=true):SatG Tryz.prog tab 155 [] [S s] [] (I (valF s (bs s).length)):=by
 have hbl:=bs_len s
 have hbz:=bs_size s
 refine uFN Tryz.func155 Tryz.ntmps155 ?_;intro w e X hC
 repeat refine uA ?_
 refine uW ?_
 refine awp_loopW (fun i:Nat×Nat=>⟨[(0,S s),(3,I (valF s i.2)),(4,I i.2)],[],i.1⟩) (fun i=>i.2<=(bs s).length) (fun i=>(bs s).length - i.2) (_,0) (Nat.zero_le _) (.of (Nat.le_refl _) (by repeat first|exact HOk.nil|refine uHN ?_|(refine HOk.cons ?_ ?_;(focus (simp only[go_sem,Nat.reduceAdd,Nat.reduceSub,Nat.reduceMul,Nat.reduceLT,Nat.reduceEqDiff,Nat.reduceBEq,Nat.reduceLeDiff,Int.reduceToNat,↓reduceIte,Int.reduceEq,Int.reduceLT,Int.reduceLE,Int.reduceAdd,Int.reduceSub,Int.reduceNeg,reduceCtorEq,valF];done)))) (by repeat first|exact WOk.nil|refine uWN ?_|(refine WOk.cons ?_ ?_;(focus (simp only[go_sem,Nat.reduceAdd,Nat.reduceSub,Nat.reduceMul,Nat.reduceLT,Nat.reduceEqDiff,Nat.reduceBEq,Nat.reduceLeDiff,Int.reduceToNat,↓reduceIte,Int.reduceEq,Int.reduceLT,Int.reduceLE,Int.reduceAdd,Int.reduceSub,Int.reduceNeg,reduceCtorEq,valF];done))))) ?_
 rintro⟨ck,i⟩ hi
 simp only at hi
 obtain⟨v1,v2⟩:=valF_le hd i hi
 have hp:(10:Int)^i<=10^3:=by
  have:i=0\/i=1\/i=2\/i=3:=by omega
  rcases this with rfl|rfl|rfl|rfl<;>decide
 have e1:valF s (i+1)=valF s i*10+(((bs s).getD i 0:Nat) - 48):=rfl
 have efin:i=(bs s).length->valF s (bs s).length=valF s i:=fun h=>by rw[h]
 generalize valF s i=v at*
 iterate 1 ((repeat first|refine awp_seq ?_|refine awp_skip ?_|refine awp_block ?_);refine awp_region hC rfl fun K hK=>?_;simp only[go_sem,Nat.reduceAdd,Nat.reduceSub,Nat.reduceMul,Nat.reduceLT,Nat.reduceEqDiff,Nat.reduceBEq,Nat.reduceLeDiff,Int.reduceToNat,↓reduceIte,Int.reduceEq,Int.reduceLT,Int.reduceLE,Int.reduceAdd,Int.reduceSub,Int.reduceNeg,reduceCtorEq,<-hbz];(repeat ((with_reducible refine And.intro ?_ ?_);focus (((repeat' apply And.intro)<;>first|omega|(simp;done)|kernel_rfl))));refine hK _ ?_;clear hK K)
 refine uW ?_;refine condP _ rfl (fun h=>?_) (fun h=>?_)
 ·have hlt:i<(bs s).length:=by omega
  have hg:=bs_getD s i
  have hdi:=hd i hlt
  simp only[digB,Bool.and_eq_true,decide_eq_true_eq] at hdi
  generalize (bs s).getD i 0=c at*
  have hwu:IntKind.u8.wrap ((c:Int) - 48)=(c:Int) - 48:=by
   simp only[IntKind.wrap,IntKind.bits,IntKind.signed,Bool.false_and,Bool.false_eq_true,false_and,if_false]
   omega
  have hwi:IntKind.i64.wrap ((c:Int) - 48)=(c:Int) - 48:=wrap_i64 ⟨by omega,by omega⟩
  repeat ((repeat first|refine awp_seq ?_|refine awp_skip ?_|refine awp_block ?_);refine awp_region hC rfl fun K hK=>?_;simp only[go_sem,Nat.reduceAdd,Nat.reduceSub,Nat.reduceMul,Nat.reduceLT,Nat.reduceEqDiff,Nat.reduceBEq,Nat.reduceLeDiff,Int.reduceToNat,↓reduceIte,Int.reduceEq,Int.reduceLT,Int.reduceLE,Int.reduceAdd,Int.reduceSub,Int.reduceNeg,reduceCtorEq,hg,<-hbl,hwu,hwi];(repeat ((with_reducible refine And.intro ?_ ?_);focus (((repeat' apply And.intro)<;>first|omega|(simp;done)|kernel_rfl))));refine hK _ ?_;clear hK K)
  refine⟨(_,i+1),by simp only;omega,by simp only;omega, .of (Nat.le_refl _) uHF (uWF1 @e1)⟩
 ·refine awp_exit ?_
  have hf:=efin (by omega)
  rw[hf]
  repeat refine uA ?_
  (refine awp_ret (ret1 uRT ?_);try rfl)
def numOk (s:ByteArray):Bool:=decide (1<=(bs s).length)&&(decide ((bs s).length<=3)&&((bs s).all digB&&!(decide (1<(bs s).length)&&decide ((bs s).getD 0 0=48))))
def numV (s:ByteArray):Int:=valF s (bs s).length
theorem number_sat (s:ByteArray) (h:numOk s=true):SatG Tryz.prog tab 113 [] [S s] [] (.tup [I (numV s),B true]):=by
 have hbl:=bs_len s
 have hbz:=bs_size s
 simp only[numOk,Bool.and_eq_true,decide_eq_true_eq,Bool.not_eq_true',Bool.and_eq_false_iff,decide_eq_false_iff_not] at h
 obtain⟨h1,h2,h3,h4⟩:=h
 have hal:=rall_sat s (by omega)
 rw[h3] at hal
 have hd:∀j,j<(bs s).length->digB ((bs s).getD j 0)=true:=fun j hj=>List.all_eq_true.1 h3 _ (mem_getD hj)
 have hv:=rvalue_sat s h2 hd
 have hg:=bs_getD s 0
 have d1:decide (((bs s).length:Int)<1)=false:=decide_eq_false (by omega)
 have d2:decide (3<((bs s).length:Int))=false:=decide_eq_false (by omega)
 have hN:numV s=valF s (bs s).length:=rfl
 rw[hN]
 generalize valF s (bs s).length=v at*
 refine uFN Tryz.func113 Tryz.ntmps113 ?_;intro w e X hC
 repeat refine uA ?_
 by_cases c1:1<(bs s).length
 ·have d3:decide (1<((bs s).length:Int))=true:=decide_eq_true (by omega)
  have d4:decide ((((bs s).getD 0 0:Nat):Int)=48)=false:=decide_eq_false (by have:=h4.resolve_left (fun h=>h c1);omega)
  (repeat first|refine awp_seq ?_|refine awp_skip ?_|refine awp_block ?_);refine awp_region hC rfl fun K hK=>?_;simp only[go_sem,Nat.reduceAdd,Nat.reduceSub,Nat.reduceMul,Nat.reduceLT,Nat.reduceEqDiff,Nat.reduceBEq,Nat.reduceLeDiff,Int.reduceToNat,↓reduceIte,Int.reduceEq,Int.reduceLT,Int.reduceLE,Int.reduceAdd,Int.reduceSub,Int.reduceNeg,reduceCtorEq,<-hbz,d1,d2]
  refine callF uTS (hal) uTS uTS uTS ?_;refine uS ?_
  simp only[go_sem,Nat.reduceAdd,Nat.reduceSub,Nat.reduceMul,Nat.reduceLT,Nat.reduceEqDiff,Nat.reduceBEq,Nat.reduceLeDiff,Int.reduceToNat,↓reduceIte,Int.reduceEq,Int.reduceLT,Int.reduceLE,Int.reduceAdd,Int.reduceSub,Int.reduceNeg,reduceCtorEq,<-hbz,<-hbl,d3,hg,d4,Int.toNat_zero]
  refine uH ?_
  refine hK _ ?_;clear hK K
  refine uF ?_
  refine uR ?_;intro K hK
  refine callF uTS (hv) uTS uTS uTS ?_;refine uS ?_
  refine hK _ ?_;clear hK K
  refine awp_ret ?_;rw[show Tryz.f113.results.toList=[.tmp 2, .tmp 3] from rfl];first|refine uRN ?_|exact uRM
 ·have d3:decide (1<((bs s).length:Int))=false:=decide_eq_false (by omega)
  (repeat first|refine awp_seq ?_|refine awp_skip ?_|refine awp_block ?_);refine awp_region hC rfl fun K hK=>?_;simp only[go_sem,Nat.reduceAdd,Nat.reduceSub,Nat.reduceMul,Nat.reduceLT,Nat.reduceEqDiff,Nat.reduceBEq,Nat.reduceLeDiff,Int.reduceToNat,↓reduceIte,Int.reduceEq,Int.reduceLT,Int.reduceLE,Int.reduceAdd,Int.reduceSub,Int.reduceNeg,reduceCtorEq,<-hbz,d1,d2]
  refine callF uTS (hal) uTS uTS uTS ?_;refine uS ?_
  simp only[go_sem,Nat.reduceAdd,Nat.reduceSub,Nat.reduceMul,Nat.reduceLT,Nat.reduceEqDiff,Nat.reduceBEq,Nat.reduceLeDiff,Int.reduceToNat,↓reduceIte,Int.reduceEq,Int.reduceLT,Int.reduceLE,Int.reduceAdd,Int.reduceSub,Int.reduceNeg,reduceCtorEq,<-hbz,d3]
  refine uH ?_
  refine hK _ ?_;clear hK K
  refine uF ?_
  refine uR ?_;intro K hK
  refine callF uTS (hv) uTS uTS uTS ?_;refine uS ?_
  refine hK _ ?_;clear hK K
  refine awp_ret ?_;rw[show Tryz.f113.results.toList=[.tmp 2, .tmp 3] from rfl];first|refine uRN ?_|exact uRM
open Go.Plant
def atN (kd:Int):Nat:=if isStrip kd=true then 3 else 2
def enN (kd:Int):Nat:=(exitsN kd).toNat
def wantN (kd:Int):Nat:=(if isStrip kd=true then 4 else 3)+if 0<enN kd then 1+enN kd else 0
def eqB (a b:ByteArray):Bool:=decide (a.data.toList=b.data.toList)
def phB:ByteArray:=⟨#[112,104,111,116,111,99,101,108,108]⟩
def scB:ByteArray:=⟨#[115,99,97,110,110,101,114]⟩
def arB:ByteArray:=⟨#[62]⟩
structure RdN (w:List ByteArray) (kd:Int):Prop where
 kr:1<=kd/\kd<=9
 len:w.length=wantN kd
 w0:∀j,1<=j->j<=9->eqB (wordsB.getD j .empty) (w.getD 0 .empty)=decide ((j:Int)=kd)
 ph:eqB (w.getD 0 .empty) phB=false/\eqB (w.getD 0 .empty) scB=false
 nm:nameOk (w.getD 1 .empty)=true/\(bs (w.getD 1 .empty)).length<=1000
 n2:isStrip kd=true->numOk (w.getD 2 .empty)=true
 zn:numOk (w.getD (atN kd) .empty)=true
 ar:0<enN kd->eqB (w.getD (atN kd+1) .empty) arB=true
 ex:∀k,k<enN kd->nameOk (w.getD (atN kd+2+k) .empty)=true/\(bs (w.getD (atN kd+2+k) .empty)).length<=1000
structure Ln where
 nm:ByteArray
 kd:Int
 ln:Int
 zn:Int
 ex:List Int
 dk:Int
 dn:Int
 dw:Int
 names:List ByteArray
 deriving Inhabited
abbrev Ln.av (x:Ln):AV:= .agg [S x.nm,I x.kd,I x.ln,I x.zn,IS x.ex,I x.dk,I x.dn,I x.dw, .sl (strs x.names) false]
def lns (l:List Ln):List AV:=l.map Ln.av
theorem lns_length (l:List Ln):(lns l).length=l.length:=by simp[lns]
theorem lns_getD {l:List Ln} {i:Nat} (h:i<l.length):(lns l).getD i .bad=(l.getD i default).av:=by simp[lns,h]
theorem PE_lns (l:List Ln):PE (lns l)=True:=by
 refine eq_true fun e he c hc=>?_
 simp only[lns,List.mem_map] at he
 obtain⟨x,_,rfl⟩:=he
 simp only[AV.cells,List.mem_cons,List.not_mem_nil,or_false] at hc
 rcases hc with rfl|rfl|rfl|rfl|rfl|rfl|rfl|rfl|rfl<;>first|trivial|rfl
theorem all_lns {l:List Ln}:(∀y∈lns l,y.cells.length=9)=True:=by
 refine eq_true fun e he=>?_
 simp only[lns,List.mem_map] at he
 obtain⟨x,_,rfl⟩:=he
 rfl
theorem lns_snoc {l:List Ln} {nm:ByteArray} {kd:Int} {ln:Int} {zn:Int} {ex:List Int} {dk:Int} {dn:Int} {dw:Int} {names:List ByteArray}:lns l++[.agg [.lit (.string nm), .lit (.int .i64 kd), .lit (.int .i64 ln), .lit (.int .i64 zn), .sl (ints ex) false, .lit (.int .i64 dk), .lit (.int .i64 dn), .lit (.int .i64 dw), .sl (strs names) false]]=lns (l++[⟨nm,kd,ln,zn,ex,dk,dn,dw,names⟩]):=by simp[lns]
theorem lns_set {l:List Ln} {i:Nat} {nm:ByteArray} {kd:Int} {ln:Int} {zn:Int} {ex:List Int} {dk:Int} {dn:Int} {dw:Int} {names:List ByteArray}:(lns l).set i (.agg [.lit (.string nm), .lit (.int .i64 kd), .lit (.int .i64 ln), .lit (.int .i64 zn), .sl (ints ex) false, .lit (.int .i64 dk), .lit (.int .i64 dn), .lit (.int .i64 dw), .sl (strs names) false])=lns (l.set i ⟨nm,kd,ln,zn,ex,dk,dn,dw,names⟩):=by simp[lns,List.map_set]
theorem lns_nil:lns []=[]:=rfl
attribute [go_sem] lns_length PE_lns all_lns lns_snoc lns_set
def rdN (w:List ByteArray) (kd:Int):Ln:=⟨w.getD 1 .empty,kd,if isStrip kd=true then numV (w.getD 2 .empty) else 0,numV (w.getD (atN kd) .empty),[],0,0,0,(w.drop (atN kd+2)).take (enN kd)⟩
theorem glu0:glu tab.gl 0=some [.sl (strs wordsB) false]:=rfl
theorem wordsB_len:wordsB.length=10:=rfl
theorem read_node (s:ByteArray) (ws:List ByteArray) (kd:Int) (hs:s.data.toList.length<=5000) (hw:splitR s 32=ws) (hr:RdN ws kd):SatG Tryz.prog tab 73 [] [S s] [] (.tup [(rdN ws kd).av,B true]):=by
 have hsp:=split_sat s 32 hs
 rw[hw] at hsp
 have hxs:=exits7_sat kd
 have hst:=strip7_sat kd
 have hen:exitsN kd=(enN kd:Int)/\enN kd<=2:=by
  have:exitsN kd=0\/exitsN kd=1\/exitsN kd=2:=by unfold exitsN;split<;>(try split)<;>simp
  unfold enN;omega
 rw[hen.1] at hxs
 obtain⟨⟨hk1,hk9⟩,hlen,hw0,hph,hnm,hn2,hzn,har,hex⟩:=hr
 have hl3:3<=ws.length/\ws.length<=7:=by rw[hlen,wantN];split<;>split<;>omega
 have hi0:0<ws.length:=by omega
 have hi1:1<ws.length:=by omega
 have hi2:2<ws.length:=by omega
 refine uFN Tryz.func73 Tryz.ntmps73 ?_;intro w e X hC
 refine uA ?_
 refine uR ?_;intro K hK
 refine callP uTS (hsp) uTS uTS uTS ?_;refine uS ?_
 refine hK _ ?_;clear hK K
 refine uA ?_
 refine awp_seq ?_
 refine awp_merge (fun q:Nat=>⟨[(2, .ptO 102 1 0 0 0),(4, .sl (strs ws) false),(5, .ptO 105 6 0 0 0)],(105,some (6, .box [S .empty,I 0,I 0,I 0, .sl [] true,I 0,I 0,I 0, .sl [] true]))::(102,some (1, .box [S .empty,I 0,I 0,I 0, .sl [] true,I 0,I 0,I 0, .sl [] true]))::[],q⟩) (fun _=>True) ?_ ?_
 ·repeat refine uA ?_
  refine uW ?_
  refine awp_loopW (fun q:Nat×Nat=>⟨[(2, .ptO 102 1 0 0 0),(4, .sl (strs ws) false),(5, .ptO 105 6 0 0 0),(6,I q.2)],(105,some (6, .box [S .empty,I 0,I 0,I 0, .sl [] true,I 0,I 0,I 0, .sl [] true]))::(102,some (1, .box [S .empty,I 0,I 0,I 0, .sl [] true,I 0,I 0,I 0, .sl [] true]))::[],q.1⟩) (fun q=>1<=q.2/\q.2<=3) (fun q=>3 - q.2) (_,1) ⟨by omega,by omega⟩ (uKF) ?_
  rintro⟨ck,k⟩ ⟨hk,hk3⟩
  simp only at hk hk3
  refine awp_seq ?_
  refine awp_merge (fun q:Nat=>⟨[(2, .ptO 102 1 0 0 0),(4, .sl (strs ws) false),(5, .ptO 105 6 0 0 0),(6,I k)],(105,some (6, .box [S .empty,I 0,I 0,I 0, .sl [] true,I 0,I 0,I 0, .sl [] true]))::(102,some (1, .box [S .empty,I 0,I 0,I 0, .sl [] true,I 0,I 0,I 0, .sl [] true]))::[],q⟩) (fun _=>k<=2/\ws.length=3) ?_ ?_
  ·by_cases c1:k<=2
   ·have d1:decide ((k:Int)<=2)=true:=decide_eq_true (by omega)
    by_cases c2:ws.length=3
    ·have d2:decide ((ws.length:Int)=3)=true:=decide_eq_true (by omega)
     refine uR1 (uI @d1 @d2) ?_;intro K hK
     refine hK _ ?_;clear hK K
     refine uT ?_
     refine uW ?_
     refine⟨_,⟨c1,c2⟩,uKF⟩
    ·have d2:decide ((ws.length:Int)=3)=false:=decide_eq_false (by omega)
     refine uR1 (uI @d1 @d2) ?_;intro K hK
     refine hK _ ?_;clear hK K
     refine uF ?_
     refine awp_exit ?_
     refine⟨_,trivial,uKF⟩
   ·have d1:decide ((k:Int)<=2)=false:=decide_eq_false (by omega)
    refine uR1 @d1 ?_;intro K hK
    refine hK _ ?_;clear hK K
    refine uF ?_
    refine awp_exit ?_
    refine⟨_,trivial,uKF⟩
  rintro ck1 ⟨hk2,hl3'⟩
  have hnum:numOk (ws.getD 2 .empty)=true:=by
   have:isStrip kd=false/\enN kd=0:=by
    rw[hlen,wantN] at hl3'
    cases h:isStrip kd with
    |true=>rw[h,if_pos rfl] at hl3';omega
    |false=>rw[h] at hl3';refine⟨rfl,?_⟩;simp only[Bool.false_eq_true,if_false] at hl3';split at hl3'<;>omega
   rw[atN,this.1] at hzn
   simpa using hzn
  have hns:=number_sat _ hnum
  refine uR1 (strs_getD hi2) ?_;intro K hK
  refine⟨by omega,?_⟩
  refine callF uTS (hns) uTS uTS uTS ?_;refine uS ?_
  refine uH ?_
  refine hK _ ?_;clear hK K
  have hk12:k=1\/k=2:=by omega
  have hq1:decide ((ws.getD 0 .empty).data.toList=[112,104,111,116,111,99,101,108,108])=false:=hph.1
  have hq2:decide ((ws.getD 0 .empty).data.toList=[115,99,97,110,110,101,114])=false:=hph.2
  rcases hk12 with rfl|rfl
  ·refine uD1 (uI (strs_getD hi0) (uI @Int.toNat_zero @hq1)) ?_;intro K hK
   refine⟨by omega,by omega,?_⟩
   refine uH ?_
   refine hK _ ?_;clear hK K
   refine uF ?_
   repeat refine uA ?_
   refine⟨(_,2),⟨by omega,by omega⟩,by simp only;omega,uKF⟩
  ·refine uD1 (uI (strs_getD hi0) (uI @Int.toNat_zero @hq2)) ?_;intro K hK
   refine⟨by omega,by omega,?_⟩
   refine uH ?_
   refine hK _ ?_;clear hK K
   refine uF ?_
   repeat refine uA ?_
   refine⟨(_,3),⟨by omega,by omega⟩,by simp only;omega,uKF⟩
 ·rintro ck1 -
  refine uA ?_
  refine uW ?_
  refine awp_loopW (fun q:Nat×Nat=>⟨[(2, .ptO 102 1 0 0 0),(4, .sl (strs ws) false),(5, .ptO 105 6 0 0 0),(9,I q.2)],(105,some (6, .box [S .empty,I (if kd<q.2 then kd else 0),I 0,I 0, .sl [] true,I 0,I 0,I 0, .sl [] true]))::(102,some (1, .box [S .empty,I 0,I 0,I 0, .sl [] true,I 0,I 0,I 0, .sl [] true]))::[],q.1⟩) (fun q=>1<=q.2/\q.2<=10) (fun q=>10 - q.2) (_,1) ⟨by omega,by omega⟩ (.of (Nat.le_refl _) (by repeat first|exact HOk.nil|refine uHN ?_|(refine HOk.cons ?_ ?_;(focus (simp only[go_sem,Nat.reduceAdd,Nat.reduceSub,Nat.reduceMul,Nat.reduceLT,Nat.reduceEqDiff,Nat.reduceBEq,Nat.reduceLeDiff,Int.reduceToNat,↓reduceIte,Int.reduceEq,Int.reduceLT,Int.reduceLE,Int.reduceAdd,Int.reduceSub,Int.reduceNeg,reduceCtorEq,if_neg (show ¬kd<(1:Nat) by omega)];done)))) (by repeat first|exact WOk.nil|refine uWN ?_|(refine WOk.cons ?_ ?_;(focus (simp only[go_sem,Nat.reduceAdd,Nat.reduceSub,Nat.reduceMul,Nat.reduceLT,Nat.reduceEqDiff,Nat.reduceBEq,Nat.reduceLeDiff,Int.reduceToNat,↓reduceIte,Int.reduceEq,Int.reduceLT,Int.reduceLE,Int.reduceAdd,Int.reduceSub,Int.reduceNeg,reduceCtorEq];done))))) ?_
  rintro⟨ck2,k⟩ ⟨hk,hk10⟩
  simp only at hk hk10
  repeat refine uA ?_
  refine uW ?_;refine condP _ rfl (fun h=>?_) (fun h=>?_)
  ·have hkl:k<wordsB.length:=by rw[wordsB_len];omega
   have hwk:decide ((wordsB.getD k .empty).data.toList=(ws.getD 0 .empty).data.toList)=decide ((k:Int)=kd):=hw0 k hk (by omega)
   by_cases c1:(k:Int)=kd
   ·have d1:decide ((k:Int)=kd)=true:=decide_eq_true c1
    have hif:(if kd<((k+1:Nat):Int) then kd else 0)=kd:=if_pos (by omega)
    have hif2:(if kd<(k:Int)+1 then kd else 0)=kd:=if_pos (by omega)
    refine uE1 (uI @glu0 (uI (strs_getD hkl) (uI (strs_getD hi0) (uI @Int.toNat_zero (uI @hwk @d1))))) ?_;intro K hK
    refine⟨by rw[wordsB_len];omega,by omega,?_⟩
    refine hK _ ?_;clear hK K
    refine uT ?_
    repeat refine uA ?_
    refine⟨(_,k+1),⟨by simp only;omega,by simp only;omega⟩,by simp only;omega, .of (Nat.le_refl _) (uHF1 (uI @hif (uI @hif2 @c1))) uWF⟩
   ·have d1:decide ((k:Int)=kd)=false:=decide_eq_false c1
    have hif:(if kd<((k+1:Nat):Int) then kd else 0)=if kd<(k:Int) then kd else 0:=by
     by_cases h:kd<(k:Int)
     ·rw[if_pos h,if_pos (by omega)]
     ·rw[if_neg h,if_neg (by omega)]
    refine uE1 (uI @glu0 (uI (strs_getD hkl) (uI (strs_getD hi0) (uI @Int.toNat_zero (uI @hwk @d1))))) ?_;intro K hK
    refine⟨by rw[wordsB_len];omega,by omega,?_⟩
    refine hK _ ?_;clear hK K
    refine uF ?_
    repeat refine uA ?_
    refine⟨(_,k+1),⟨by simp only;omega,by simp only;omega⟩,by simp only;omega, .of (Nat.le_refl _) (uHF1 @hif) uWF⟩
  refine awp_exit ?_
  rw[if_pos (by omega)]
  obtain rfl:k=10:=by omega
  obtain⟨hene,hen2⟩:=hen
  obtain⟨at',hat⟩:∃a,a=atN kd:=⟨_,rfl⟩
  rw[<-hat] at hzn har hex
  have hwant:=hlen
  unfold wantN at hwant
  have hRD:rdN ws kd=_:=rdN.eq_1 ws kd
  rw[<-hat] at hRD
  generalize rdN ws kd=rr at*
  have hen0:0<=(enN kd:Int):=by omega
  generalize enN kd=en at*
  have hatv:at'=if isStrip kd=true then 3 else 2:=hat
  have hat4:(if isStrip kd=true then 4 else 3)=at'+1:=by rw[hatv];split<;>rfl
  have hla:at'<ws.length:=by rw[hwant,hat4];omega
  have hla1:0<en->at'+1<ws.length:=fun h=>by rw[hwant,hat4,if_pos h];omega
  have hla2:∀k,k<en->at'+2+k<ws.length:=fun k hk=>by rw[hwant,hat4,if_pos (by omega)];omega
  clear hat4
  generalize isStrip kd=st at*
  refine uR ?_;intro K hK
  refine callF uTS (hxs) uTS uTS uTS ?_;refine uS ?_
  refine hK _ ?_;clear hK K
  refine uA ?_
  refine awp_seq ?_
  refine awp_merge (fun q:Nat=>⟨[(2, .ptO 102 1 0 0 0),(4, .sl (strs ws) false),(5, .ptO 105 6 0 0 0),(10,I en),(11,I 2),(12,I (if st=true then 4 else 3))],(105,some (6, .box [S .empty,I kd,I 0,I 0, .sl [] true,I 0,I 0,I 0, .sl [] true]))::(102,some (1, .box [S .empty,I 0,I 0,I 0, .sl [] true,I 0,I 0,I 0, .sl [] true]))::[],q⟩) (fun _=>True) ?_ ?_
  ·cases st with
   |true=>
    refine uR ?_;intro K hK
    refine callF uTS (hst) uTS uTS uTS ?_;refine uS ?_
    refine hK _ ?_;clear hK K
    refine uT ?_
    repeat refine uA ?_
    refine⟨_,trivial,uKF⟩
   |false=>
    refine uR ?_;intro K hK
    refine callF uTS (hst) uTS uTS uTS ?_;refine uS ?_
    refine hK _ ?_;clear hK K
    refine uF ?_
    refine uW ?_
    refine⟨_,trivial,uKF⟩
  rintro ck3 -
  refine awp_seq ?_
  refine awp_merge (fun q:Nat=>⟨[(2, .ptO 102 1 0 0 0),(4, .sl (strs ws) false),(5, .ptO 105 6 0 0 0),(10,I en),(11,I 2),(12,I ws.length)],(105,some (6, .box [S .empty,I kd,I 0,I 0, .sl [] true,I 0,I 0,I 0, .sl [] true]))::(102,some (1, .box [S .empty,I 0,I 0,I 0, .sl [] true,I 0,I 0,I 0, .sl [] true]))::[],q⟩) (fun _=>True) ?_ ?_
  ·by_cases c1:0<en
   ·have d1:decide (0<(en:Int))=true:=decide_eq_true (by omega)
    rw[if_pos c1] at hwant
    have hv:(if st=true then(4:Int) else 3)+(1+(en:Int))=ws.length:=by rw[hwant];cases st<;>simp<;>omega
    have hvb:3<=(if st=true then(4:Int) else 3)/\(if st=true then(4:Int) else 3)<=4:=by cases st<;>simp
    generalize (if st=true then(4:Int) else 3)=v4 at*
    repeat first|refine uC ?_|refine uA1 @d1 ?_
    refine⟨_,trivial, .of (Nat.le_refl _) uHF (uWF1 @hv)⟩
   ·have d1:decide (0<(en:Int))=false:=decide_eq_false (by omega)
    rw[if_neg c1] at hwant
    have hv:(if st=true then(4:Int) else 3)=ws.length:=by rw[hwant];cases st<;>simp
    repeat first|refine uC ?_|refine uA1 @d1 ?_
    refine uW ?_
    refine⟨_,trivial, .of (Nat.le_refl _) uHF (uWF1 @hv)⟩
  rintro ck4 -
  have dk0:decide (kd=0)=false:=decide_eq_false (by omega)
  have dwl:decide (¬(ws.length:Int)=ws.length)=false:=decide_eq_false (fun h=>h rfl)
  have hnms:=name4_sat _ hnm.2
  rw[hnm.1] at hnms
  have hl0:=hla
  refine uR1 (uI @dk0 (uI @dwl (uI (strs_getD hi1) @Int.toNat_one))) ?_;intro K hK
  refine⟨by omega,?_⟩
  refine callF uTS (hnms) uTS uTS uTS ?_;refine uS ?_
  refine uH ?_
  refine hK _ ?_;clear hK K
  refine uF ?_
  repeat refine uA1 (uI (strs_getD hi1) @Int.toNat_one) ?_
  refine awp_seq ?_
  refine awp_merge (fun q:Nat=>⟨[(2, .ptO 102 1 0 0 0),(4, .sl (strs ws) false),(5, .ptO 105 6 0 0 0),(10,I en),(11,I at'),(13,B true)],(105,some (6, .box [S (ws.getD 1 .empty),I kd,I (if st=true then numV (ws.getD 2 .empty) else 0),I 0, .sl [] true,I 0,I 0,I 0, .sl [] true]))::(102,some (1, .box [S .empty,I 0,I 0,I 0, .sl [] true,I 0,I 0,I 0, .sl [] true]))::[],q⟩) (fun _=>True) ?_ ?_
  ·cases st with
   |true=>
    have hn2s:=number_sat _ (hn2 rfl)
    rw[if_pos rfl] at hatv
    subst hatv
    refine uR ?_;intro K hK
    refine callF uTS (hst) uTS uTS uTS ?_;refine uS ?_
    refine hK _ ?_;clear hK K
    refine uT ?_
    refine uR1 (strs_getD hi2) ?_;intro K hK
    refine⟨by omega,?_⟩
    refine callF uTS (hn2s) uTS uTS uTS ?_;refine uS ?_
    refine uH ?_
    refine hK _ ?_;clear hK K
    repeat refine uA ?_
    refine⟨_,trivial,uKF⟩
   |false=>
    rw[if_neg (by decide)] at hatv
    subst hatv
    refine uR ?_;intro K hK
    refine callF uTS (hst) uTS uTS uTS ?_;refine uS ?_
    refine hK _ ?_;clear hK K
    refine uF ?_
    refine uW ?_
    refine⟨_,trivial,uKF⟩
  rintro ck5 -
  have hzs:=number_sat _ hzn
  refine uR1 (strs_getD hla) ?_;intro K hK
  refine⟨by omega,?_⟩
  refine callF uTS (hzs) uTS uTS uTS ?_;refine uS ?_
  refine uH ?_
  refine hK _ ?_;clear hK K
  generalize (if st=true then numV (ws.getD 2 .empty) else 0)=vln at*
  generalize numV (ws.getD at' .empty)=vzn at*
  refine uA ?_
  refine awp_seq ?_
  refine awp_merge (fun q:Nat=>⟨[(2, .ptO 102 1 0 0 0),(4, .sl (strs ws) false),(5, .ptO 105 6 0 0 0),(10,I en),(11,I at')],(105,some (6, .box [S (ws.getD 1 .empty),I kd,I vln,I vzn, .sl [] true,I 0,I 0,I 0, .sl [] true]))::(102,some (1, .box [S .empty,I 0,I 0,I 0, .sl [] true,I 0,I 0,I 0, .sl [] true]))::[],q⟩) (fun _=>True) ?_ ?_
  ·by_cases c1:0<en
   ·have d1:decide (0<(en:Int))=true:=decide_eq_true (by omega)
    have hl1:=hla1 c1
    have hkt:((at':Int)+1).toNat=at'+1:=by omega
    have hat1:decide (¬(ws.getD (at'+1) .empty).data.toList=[62])=false:=by
     have h1:(ws.getD (at'+1) .empty).data.toList=[62]:=of_decide_eq_true (har c1)
     exact decide_eq_false (fun h=>h h1)
    refine uR1 (uI @d1 (uI @hkt (uI (strs_getD hl1) @hat1))) ?_;intro K hK
    refine uH ?_
    refine hK _ ?_;clear hK K
    refine uF ?_
    refine uW ?_
    refine⟨_,trivial,uKF⟩
   ·have d1:decide (0<(en:Int))=false:=decide_eq_false (by omega)
    refine uR1 @d1 ?_;intro K hK
    refine hK _ ?_;clear hK K
    refine uF ?_
    refine uW ?_
    refine⟨_,trivial,uKF⟩
  rintro ck6 -
  repeat refine uA ?_
  refine uW ?_
  refine awp_loopW (fun q:Nat×Nat×Nat=>⟨[(2, .ptO 102 1 0 0 0),(4, .sl (strs ws) false),(5, .ptO 105 6 0 0 0),(10,I en),(11,I at'),(16,I q.2.1)],(105,some (6, .box [S (ws.getD 1 .empty),I kd,I vln,I vzn, .sl [] true,I 0,I 0,I 0,nilC q.2.1 (.slO 280 q.2.2 0 q.2.1)]))::(280,nilH q.2.1 (q.2.2, .own 9 1 (strs ((ws.drop (at'+2)).take q.2.1))))::(102,some (1, .box [S .empty,I 0,I 0,I 0, .sl [] true,I 0,I 0,I 0, .sl [] true]))::[],q.1⟩)
   (fun q=>q.2.1<=en) (fun q=>en - q.2.1) (_,0,0) (Nat.zero_le _) (uKF) ?_
  rintro⟨ck7,k,g⟩ hk
  simp only at hk
  repeat refine uA ?_
  refine uW ?_;refine condP _ rfl (fun h7=>?_) (fun h7=>?_)
  ·have hlt:k<en:=by omega
   have hlk:=hla2 k hlt
   have hxk:=hex k hlt
   have hxs2:=name4_sat _ hxk.2
   rw[hxk.1] at hxs2
   have hkt:((at':Int)+2+(k:Int)).toNat=at'+2+k:=by omega
   have hsn:(ws.drop (at'+2)).take (k+1)=(ws.drop (at'+2)).take k++[ws.getD (at'+2+k) .empty]:=by
    rw[take_getD (d:= .empty) (by rw[List.length_drop];omega)]
    congr 2
    simp[List.getD_eq_getElem?_getD]
   have htl:((ws.drop (at'+2)).take k).length=k:=by rw[List.length_take,List.length_drop];omega
   generalize (ws.drop (at'+2)).take k=o at*
   refine uR1 (uI @hkt (strs_getD hlk)) ?_;intro K hK
   refine uH ?_
   refine callF uTS (hxs2) uTS uTS uTS ?_;refine uS ?_
   refine uH ?_
   refine hK _ ?_;clear hK K
   refine uF ?_
   by_cases hi0':k=0
   ·subst hi0'
    obtain rfl:o=[]:=List.length_eq_zero_iff.1 htl
    simp only[nilC_z,nilH_z]
    refine uD1 (uI @hkt (strs_getD hlk)) ?_;intro K hK
    refine uH ?_
    refine hK _ ?_;clear hK K
    repeat refine uA ?_
    refine⟨(_,0+1,ck7+22),by simp only;omega,by simp only;omega, .of (Nat.le_refl _) (by repeat first|exact HOk.nil|refine uHN ?_|(refine HOk.cons ?_ ?_;(focus (simp only[go_sem,Nat.reduceAdd,Nat.reduceSub,Nat.reduceMul,Nat.reduceLT,Nat.reduceEqDiff,Nat.reduceBEq,Nat.reduceLeDiff,Int.reduceToNat,↓reduceIte,Int.reduceEq,Int.reduceLT,Int.reduceLE,Int.reduceAdd,Int.reduceSub,Int.reduceNeg,reduceCtorEq,hsn,List.nil_append,Nat.add_zero,strs,List.map_cons,List.map_nil,nilC_s,nilH_s];done)))) (by repeat first|exact WOk.nil|refine uWN ?_|(refine WOk.cons ?_ ?_;(focus (simp only[go_sem,Nat.reduceAdd,Nat.reduceSub,Nat.reduceMul,Nat.reduceLT,Nat.reduceEqDiff,Nat.reduceBEq,Nat.reduceLeDiff,Int.reduceToNat,↓reduceIte,Int.reduceEq,Int.reduceLT,Int.reduceLE,Int.reduceAdd,Int.reduceSub,Int.reduceNeg,reduceCtorEq];done))))⟩
   ·simp only[nilC_p hi0',nilH_p hi0']
    refine uD1 (uI @hkt (uI (strs_getD hlk) @htl)) ?_;intro K hK
    refine uH ?_
    refine hK _ ?_;clear hK K
    repeat refine uA ?_
    refine⟨(_,k+1,g),by simp only;omega,by simp only;omega, .of (Nat.le_refl _) (uHF1 (uI @hsn (uI @nilC_s @nilH_s))) uWF⟩
  ·refine awp_exit ?_
   obtain rfl:k=en:=by omega
   subst hRD
   by_cases hi0':k=0
   ·subst hi0'
    simp only[nilC_z,nilH_z]
    repeat refine uA ?_
    refine awp_ret ?_;rw[show Tryz.f73.results.toList=[.cell 2 106, .tmp 3] from rfl];first|refine uRN ?_|exact uRM
    rfl
   ·simp only[nilC_p hi0',nilH_p hi0']
    repeat refine uA ?_
    have htl:((ws.drop (at'+2)).take k).length=k:=by rw[List.length_take,List.length_drop];have:=hla2 (k - 1) (by omega);omega
    refine awp_ret ?_;rw[show Tryz.f73.results.toList=[.cell 2 106, .tmp 3] from rfl];first|refine uRN1 @htl ?_|exact uRM1 @htl
    rfl
open Go.Plant
def rdS (ws:List ByteArray):Ln:=⟨.empty,0,0,0,[],2,0,numV (ws.getD 2 .empty),[ws.getD 1 .empty]⟩
theorem read_scan (s:ByteArray) (ws:List ByteArray) (hs:s.data.toList.length<=5000) (hw:splitR s 32=ws) (hl:ws.length=3) (h0:eqB (ws.getD 0 .empty) phB=false/\eqB (ws.getD 0 .empty) scB=true)
  (hnm:nameOk (ws.getD 1 .empty)=true/\(bs (ws.getD 1 .empty)).length<=1000) (hn:numOk (ws.getD 2 .empty)=true):SatG Tryz.prog tab 73 [] [S s] [] (.tup [(rdS ws).av,B true]):=by
 have hsp:=split_sat s 32 hs
 rw[hw] at hsp
 have hns:=number_sat _ hn
 have hnms:=name4_sat _ hnm.2
 rw[hnm.1] at hnms
 have hi0:0<ws.length:=by omega
 have hi1:1<ws.length:=by omega
 have hi2:2<ws.length:=by omega
 have hq1:decide ((ws.getD 0 .empty).data.toList=[112,104,111,116,111,99,101,108,108])=false:=h0.1
 have hq2:decide ((ws.getD 0 .empty).data.toList=[115,99,97,110,110,101,114])=true:=h0.2
 have hRD:rdS ws=_:=rdS.eq_1 ws
 have htd:List.take 1 (List.drop 1 ws)=[ws.getD 1 .empty]:=by
  match ws,hl with
  |[a,b,c],_=>rfl
 have htd2:List.drop 1 (List.take 2 ws)=[ws.getD 1 .empty]:=by
  match ws,hl with
  |[a,b,c],_=>rfl
 generalize rdS ws=rr at*
 generalize numV (ws.getD 2 .empty)=nv at*
 have d3:decide ((ws.length:Int)=3)=true:=decide_eq_true (by omega)
 refine uFN Tryz.func73 Tryz.ntmps73 ?_;intro w e X hC
 refine uA ?_
 refine uR ?_;intro K hK
 refine callP uTS (hsp) uTS uTS uTS ?_;refine uS ?_
 refine hK _ ?_;clear hK K
 refine uA ?_
 repeat refine uA ?_
 refine uW ?_
 refine awp_loopW (fun q:Nat×Nat=>⟨[(2, .ptO 102 1 0 0 0),(4, .sl (strs ws) false),(5, .ptO 105 6 0 0 0),(6,I q.2)],(105,some (6, .box [S .empty,I 0,I 0,I 0, .sl [] true,I 0,I 0,I 0, .sl [] true]))::(102,some (1, .box [S .empty,I 0,I 0,I 0, .sl [] true,I 0,I 0,I 0, .sl [] true]))::[],q.1⟩) (fun q=>1<=q.2/\q.2<=2) (fun q=>3 - q.2) (_,1) ⟨by omega,by omega⟩ (uKF) ?_
 rintro⟨ck,k⟩ ⟨hk,hk3⟩
 simp only at hk hk3
 have d1:decide ((k:Int)<=2)=true:=decide_eq_true (by omega)
 refine uR1 (uI @d1 @d3) ?_;intro K hK
 refine hK _ ?_;clear hK K
 refine uT ?_
 refine uR1 (strs_getD hi2) ?_;intro K hK
 refine⟨by omega,?_⟩
 refine callF uTS (hns) uTS uTS uTS ?_;refine uS ?_
 refine uH ?_
 refine hK _ ?_;clear hK K
 have hk12:k=1\/k=2:=by omega
 rcases hk12 with rfl|rfl
 ·refine uD1 (uI (strs_getD hi0) (uI @Int.toNat_zero @hq1)) ?_;intro K hK
  refine⟨by omega,by omega,?_⟩
  refine uH ?_
  refine hK _ ?_;clear hK K
  refine uF ?_
  repeat refine uA ?_
  refine⟨(_,2),⟨by omega,by omega⟩,by simp only;omega,uKF⟩
 ·refine uD1 (uI (strs_getD hi0) (uI (strs_getD hi1) (uI @Int.toNat_zero (uI @Int.toNat_one @hq2)))) ?_;intro K hK
  refine⟨by omega,by omega,by omega,?_⟩
  refine callF uTS (hnms) uTS uTS uTS ?_;refine uS ?_
  refine uH ?_
  refine hK _ ?_;clear hK K
  refine uT ?_
  refine uD1 (uI @strs_drop (uI @strs_take (uI @htd @htd2))) ?_;intro K hK
  refine uH ?_
  refine hK _ ?_;clear hK K
  subst hRD
  repeat refine uA ?_
  refine awp_ret ?_;rw[show Tryz.f73.results.toList=[.cell 2 106, .tmp 3] from rfl];first|refine uRN ?_|exact uRM
  rfl
open Go.Plant
def ndOf (x:Ln):Nd:=⟨x.nm,x.kd,x.ln,x.zn,x.ex⟩
def dvOf (x:Ln):T3:=⟨x.dk,x.dn,x.dw⟩
theorem nds_one {nm:ByteArray} {kd ln zn:Int} {ex:List Int}:[AV.agg [.lit (.string nm), .lit (.int .i64 kd), .lit (.int .i64 ln), .lit (.int .i64 zn), .sl (ints ex) false]]=nds [⟨nm,kd,ln,zn,ex⟩]:=rfl
theorem t3s_one {a b c:Int}:[AV.agg [.lit (.int .i64 a), .lit (.int .i64 b), .lit (.int .i64 c)]]=t3s [⟨a,b,c⟩]:=rfl
def fnd (ls:List Ln) (m:Nat) (nm:ByteArray):Int:=findN ((ls.take m).map ndOf) nm
def exN (ls:List Ln) (m:Nat) (x:Ln) (c:Nat):Nd×Bool:=if c=0 then(ndOf x,false) else(⟨x.nm,x.kd,x.ln,x.zn,x.ex++(x.names.take c).map (fnd ls m)⟩,true)
def cnJ (ls:List Ln) (i k j:Nat):Nat:=if j<i then(ls.getD j default).names.length else if j=i then k else 0
def mixS (ls:List Ln) (m i k:Nat):List (Nd×Bool):=(List.range m).map fun j=>exN ls m (ls.getD j default) (cnJ ls i k j)
theorem mixS_len (ls:List Ln) (m i k:Nat):(mixS ls m i k).length=m:=by simp[mixS]
theorem mixS_getD {ls:List Ln} {m i k j:Nat} (h:j<m):(mixS ls m i k).getD j default=exN ls m (ls.getD j default) (cnJ ls i k j):=by simp[mixS,h]
theorem mixes_getD {l:List (Nd×Bool)} {i:Nat} (h:i<l.length):(mixes l).getD i .bad=mixN (l.getD i default):=by simp[mixes,h]
theorem exN_nm (ls:List Ln) (m:Nat) (x:Ln) (c:Nat):(exN ls m x c).1.nm=x.nm:=by unfold exN;split<;>rfl
theorem findN_map (xs:List Nd) (nm:ByteArray):findN xs nm=match (xs.map (·.nm)).findIdx? (fun z=>decide (z=nm)) with|some i=>i|none=>-1:=by
 rw[findN,List.findIdx?_map];rfl
theorem mixS_fnd {ls:List Ln} {m i k:Nat} (hm:m<=ls.length) (nm:ByteArray):findN ((mixS ls m i k).map (·.1)) nm=fnd ls m nm:=by
 rw[fnd,findN_map,findN_map]
 have:((mixS ls m i k).map (·.1)).map (·.nm)=((ls.take m).map ndOf).map (·.nm):=by
  apply List.ext_getElem
  ·simp[mixS_len];omega
  ·intro j h1 h2
   simp only[List.length_map,mixS_len] at h1
   simp only[List.getElem_map,List.getElem_take,mixS,List.getElem_range,exN_nm]
   simp[show j<ls.length by omega,ndOf]
 rw[this]
theorem mixS_next (ls:List Ln) (m i:Nat):mixS ls m i (ls.getD i default).names.length=mixS ls m (i+1) 0:=by
 unfold mixS
 refine List.map_congr_left fun j _=>?_
 congr 1
 unfold cnJ
 by_cases h1:j<i
 ·rw[if_pos h1,if_pos (by omega)]
 ·rw[if_neg h1]
  by_cases h2:j=i
  ·subst h2;rw[if_pos rfl,if_pos (by omega)]
  ·rw[if_neg h2,if_neg (by omega)];split<;>rfl
theorem mixS_ge {ls:List Ln} {m i k k':Nat} (h:m<=i):mixS ls m i k=mixS ls m i k':=by
 unfold mixS
 refine List.map_congr_left fun j hj=>?_
 have:=List.mem_range.1 hj
 rw[cnJ,cnJ,if_pos (by omega),if_pos (by omega)]
theorem mixS_set {ls:List Ln} {m i k:Nat} (hi:i<m):(mixS ls m i k).set i (exN ls m (ls.getD i default) (k+1))=mixS ls m i (k+1):=by
 apply List.ext_getElem
 ·simp[mixS_len]
 ·intro j h1 h2
  simp only[List.length_set,mixS_len] at h1
  rw[List.getElem_set]
  by_cases hji:i=j
  ·subst hji
   simp[mixS,cnJ]
  ·rw[if_neg hji]
   simp[mixS,cnJ,show ¬j=i from fun h=>hji h.symm]
def dvS (ls:List Ln) (m d:Nat):List T3:=(List.range (ls.length - m)).map fun j=>if j<d then⟨(ls.getD (m+j) default).dk,fnd ls m ((ls.getD (m+j) default).names.getD 0 .empty),(ls.getD (m+j) default).dw⟩ else dvOf (ls.getD (m+j) default)
theorem dvS_len (ls:List Ln) (m d:Nat):(dvS ls m d).length=ls.length - m:=by simp[dvS]
theorem dvS_getD {ls:List Ln} {m d j:Nat} (h:j<ls.length - m):(dvS ls m d).getD j default=if j<d then⟨(ls.getD (m+j) default).dk,fnd ls m ((ls.getD (m+j) default).names.getD 0 .empty),(ls.getD (m+j) default).dw⟩ else dvOf (ls.getD (m+j) default):=by simp only[dvS,List.getD_eq_getElem?_getD,List.getElem?_map,List.getElem?_range h,Option.map_some,Option.getD_some]
theorem dvS_set {ls:List Ln} {m d:Nat} (h:d<ls.length - m):(dvS ls m d).set d ⟨(ls.getD (m+d) default).dk,fnd ls m ((ls.getD (m+d) default).names.getD 0 .empty),(ls.getD (m+d) default).dw⟩=dvS ls m (d+1):=by
 apply List.ext_getElem
 ·simp[dvS_len]
 ·intro j h1 h2
  simp only[List.length_set,dvS_len] at h1
  rw[List.getElem_set]
  by_cases hjd:d=j
  ·subst hjd
   simp[dvS]
  ·rw[if_neg hjd]
   by_cases hlt:j<d
   ·simp[dvS,hlt,show j<d+1 by omega]
   ·simp[dvS,hlt,show ¬j<d+1 by omega]
def cD (m i k:Nat):Nat:=if i<m then 0 else i - m+k
theorem cD_next {m i k:Nat} (h:m<=i->k=1):cD m i k=cD m (i+1) 0:=by
 unfold cD
 by_cases h1:i<m
 ·rw[if_pos h1];split<;>omega
 ·have:=h (by omega);rw[if_neg h1,if_neg (by omega)];omega
def prsY (ls:List Ln) (m:Nat):Ly:=⟨(mixS ls m m 0).map (·.1),dvS ls m (ls.length - m)⟩
theorem dvS_zero {ls:List Ln} {m:Nat}:dvS ls m 0=(ls.drop m).map dvOf:=by
 apply List.ext_getElem
 ·simp[dvS]
 ·intro j h1 h2
  simp only[dvS_len] at h1
  simp[dvS,show m+j<ls.length by omega]
structure Prs (s:ByteArray) (T:List ByteArray) (ls:List Ln) (m:Nat):Prop where
 len:s.data.toList.length<=4096
 sp:splitR s 10=T++[.empty]
 tl:T.length=ls.length
 ll:ls.length<=100
 ml:m<=ls.length
 m0:0<m
 nd:∀i,i<m->(ls.getD i default).kd≠0
 dv:∀i,m<=i->i<ls.length->(ls.getD i default).kd=0
 fn:∀i,i<ls.length->∀k,k<(ls.getD i default).names.length->0<=fnd ls m ((ls.getD i default).names.getD k .empty)
 x0:∀i,i<ls.length->(ls.getD i default).ex=[]
 d1:∀i,m<=i->i<ls.length->(ls.getD i default).names.length=1
 nl:∀i,i<ls.length->(ls.getD i default).names.length<=100
 rd:∀i,i<ls.length->SatG Tryz.prog tab 73 [] [S (T.getD i .empty)] [] (.tup [(ls.getD i default).av,B true])
theorem parse_sat (s:ByteArray) (T:List ByteArray) (ls:List Ln) (m:Nat) (h:Prs s T ls m) (hs7:Sml7 (prsY ls m)) (hval:validE (prsY ls m)=0):SatG Tryz.prog tab 40 [] [S s] [] (.tup [(prsY ls m).av,I 0,I 0]):=by
 obtain⟨hlen,hsp,htl,hll,hml,hm0,hnd,hdv,hfn,hx0,hd1,hnl,hrd⟩:=h
 have hsz:s.size=s.data.toList.length:=by rw[<-bs_size,bs_len]
 have hspl:=split_sat s 10 (by omega)
 rw[hsp] at hspl
 have hTl:(T++[ByteArray.empty]).length=ls.length+1:=by rw[List.length_append,htl];rfl
 have hTg:(T++[ByteArray.empty]).getD ls.length .empty= .empty:=by rw[getD_snoc,htl];simp
 have hTt:(T++[ByteArray.empty]).take ls.length=T:=by rw[<-htl,List.take_left]
 have hll1:ls.length<(T++[ByteArray.empty]).length:=by omega
 have hkt:((ls.length:Int)+1 - 1).toNat=ls.length:=by omega
 have hkt2:((ls.length:Int)+1 - 1)=ls.length:=by omega
 refine uFN Tryz.func40 Tryz.ntmps40 ?_;intro w e X hC
 repeat refine uA1 @hsz ?_
 refine uW ?_;refine condP _ rfl (fun c0=>?_) (fun c0=>?_)
 ·omega
 refine uR ?_;intro K hK
 refine callP uTS (hspl) uTS uTS uTS ?_;refine uS ?_
 refine hK _ ?_;clear hK K
 repeat refine uA1 (uI @hTl (uI @Int.natCast_add (uI @hkt2 (uI @Int.natCast_one (uI (strs_getD hll1) (uI @hTg (uI @strs_take @hTt))))))) ?_
 refine uW ?_
 refine awp_loopW (fun q:Nat×Nat×Nat×Nat×Nat×Nat×Nat=>⟨[(2, .ptO 102 1 0 0 0),(5, .sl (strs T) false),(6,S .empty),(7, .slO 107 q.2.2.1 0 q.2.1),(8, .ptO 108 24 0 0 0),(9,I q.2.1)],
  (108,some (24, .box [nilC q.2.2.2.2.2.1 (.slO 177 q.2.2.2.1 0 q.2.2.2.2.2.1),nilC q.2.2.2.2.2.2 (.slO 184 q.2.2.2.2.1 0 q.2.2.2.2.2.2)]))::(177,nilH q.2.2.2.2.2.1 (q.2.2.2.1, .own 49 5 (nds ((ls.take q.2.2.2.2.2.1).map ndOf))))::(184,nilH q.2.2.2.2.2.2 (q.2.2.2.2.1, .own 104 3 (t3s (((ls.drop m).take q.2.2.2.2.2.2).map dvOf))))::(107,some (q.2.2.1, .own 106 9 (lns (ls.take q.2.1))))::(102,some (1, .box [.sl [] true, .sl [] true]))::[],q.1⟩)
  (fun q=>q.2.1<=ls.length/\q.2.2.2.2.2.1=min q.2.1 m/\q.2.2.2.2.2.2=q.2.1 - m) (fun q=>ls.length - q.2.1) (_,0,23,0,0,0,0) ⟨Nat.zero_le _,by simp,by simp⟩ (.of (Nat.le_refl _) (uHF1 @lns_nil) uWF) ?_
 rintro⟨ck,i,g,g1,g2,na,nd⟩ ⟨hi,hna,hnd0⟩
 simp only at hi hna hnd0
 have hT2:T.length=ls.length:=htl
 repeat refine uA1 @hT2 ?_
 refine uW ?_;refine condP _ rfl (fun h1=>?_) (fun h1=>?_)
 ·have hlt:i<ls.length:=by omega
  have hltT:i<T.length:=by omega
  have hrdi:=hrd i hlt
  have hndi:=hnd i
  have hdvi:=hdv i
  have htk:=take_getD (d:=default) hlt
  have htkl:(ls.take i).length=i:=by rw[List.length_take];omega
  generalize e1:ls.getD i default=x at*
  obtain⟨xnm,xkd,xln,xzn,xex,xdk,xdn,xdw,xns⟩:=x
  simp only at hndi hdvi
  refine uR1 (strs_getD hltT) ?_;intro K hK
  refine⟨by omega,?_⟩
  refine callP uTS (hrdi) uTS uTS uTS ?_;refine uS ?_
  refine uH ?_
  refine hK _ ?_;clear hK K
  by_cases him:i<m
  ·have hkd:=hndi him
   have dk:decide (¬xkd=0)=true:=decide_eq_true hkd
   obtain rfl:na=i:=by omega
   obtain rfl:nd=0:=by omega
   have htm:∀l:List Ln,(l++[(⟨xnm,xkd,xln,xzn,xex,xdk,xdn,xdw,xns⟩:Ln)]).map ndOf=l.map ndOf++[⟨xnm,xkd,xln,xzn,xex⟩]:=fun l=>by rw[List.map_append];rfl
   have htm1:[(⟨xnm,xkd,xln,xzn,xex,xdk,xdn,xdw,xns⟩:Ln)].map ndOf=[⟨xnm,xkd,xln,xzn,xex⟩]:=rfl
   simp only[nilC_z,nilH_z]
   by_cases hi0':na=0
   ·subst hi0'
    simp only[nilC_z,nilH_z]
    repeat first|refine uC ?_|refine uA1 (uI @dk @htkl) ?_
    refine⟨(_,0+1,g,ck+43,g2,0+1,0),⟨by simp only;omega,by simp only;omega,by simp only;omega⟩,by simp only;omega, .of (Nat.le_refl _) (uHF1 (uI @htk (uI @htm (uI @htm1 (uI @nds_one (uI @nilC_s @nilH_s)))))) uWF⟩
   ·simp only[nilC_p hi0',nilH_p hi0']
    repeat first|refine uC ?_|refine uA1 (uI @dk @htkl) ?_
    refine⟨(_,na+1,g,g1,g2,na+1,0),⟨by simp only;omega,by simp only;omega,by simp only;omega⟩,by simp only;omega, .of (Nat.le_refl _) (uHF1 (uI @htk (uI @htm (uI @nilC_s @nilH_s)))) uWF⟩
  ·have hkd:=hdvi (by omega) hlt
   have dk:decide (¬xkd=0)=false:=decide_eq_false (fun h=>h hkd)
   obtain⟨na',rfl⟩:∃k,na=k+1:=⟨na - 1,by omega⟩
   obtain rfl:m=na'+1:=by omega
   have hdl:nd<(ls.drop (na'+1)).length:=by rw[List.length_drop];omega
   have hdg:(ls.drop (na'+1)).getD nd default=⟨xnm,xkd,xln,xzn,xex,xdk,xdn,xdw,xns⟩:=by
    rw[<-e1]
    simp only[List.getD_eq_getElem?_getD,List.getElem?_drop]
    congr 2
    omega
   have htm:((ls.drop (na'+1)).take (nd+1)).map dvOf=((ls.drop (na'+1)).take nd).map dvOf++[⟨xdk,xdn,xdw⟩]:=by rw[take_getD (d:=default) hdl,List.map_append,hdg];rfl
   have hdtl:((ls.drop (na'+1)).take nd).length=nd:=by rw[List.length_take];omega
   simp only[nilC_s,nilH_s]
   by_cases hi0':nd=0
   ·subst hi0'
    simp only[nilC_z,nilH_z]
    repeat first|refine uC ?_|refine uA1 (uI @dk @htkl) ?_
    refine⟨(_,i+1,g,g1,ck+43,na'+1,0+1),⟨by simp only;omega,by simp only;omega,by simp only;omega⟩,by simp only;omega, .of (Nat.le_refl _) (uHF1 (uI @htm (uI @htk (uI @t3s_one (uI @nilC_s @nilH_s))))) uWF⟩
   ·simp only[nilC_p hi0',nilH_p hi0']
    repeat first|refine uC ?_|refine uA1 (uI @dk (uI @htkl @hdtl)) ?_
    refine⟨(_,i+1,g,g1,g2,na'+1,nd+1),⟨by simp only;omega,by simp only;omega,by simp only;omega⟩,by simp only;omega, .of (Nat.le_refl _) (uHF1 (uI @htm (uI @htk (uI @nilC_s @nilH_s)))) uWF⟩
 ·refine awp_exit ?_
  obtain rfl:i=ls.length:=by omega
  clear hrd hspl hTl hTg hTt hll1
  obtain rfl:na=m:=by omega
  obtain⟨na',rfl⟩:∃k,na=k+1:=⟨na - 1,by omega⟩
  rw[List.take_length]
  have hdz:(ls.drop (na'+1)).take nd=ls.drop (na'+1):=List.take_of_length_le (by rw[List.length_drop];omega)
  rw[hdz,<-dvS_zero]
  have hmz:nds ((ls.take (na'+1)).map ndOf)=mixes (mixS ls (na'+1) 0 0):=by
   rw[mixes_nds]
   congr 1
   apply List.ext_getElem
   ·simp[mixS_len];omega
   ·intro j h1 h2
    simp only[List.length_map,mixS_len] at h2
    simp[mixS,cnJ,exN,show j<ls.length by omega]
  rw[hmz]
  simp only[nilC_s,nilH_s]
  repeat refine uA ?_
  refine uW ?_;refine condP _ rfl (fun hh=>?_) (fun hh=>?_)
  ·exact absurd rfl hh
  iterate 3 (first|refine awp_skip ?_|refine awp_seq ?_)
  refine awp_merge (fun q:Nat×Nat=>⟨[(2, .ptO 102 1 0 0 0),(7, .slO 107 g 0 ls.length),(8, .ptO 108 24 0 0 0),(12,I 0)],
   (108,some (24, .box [.slO 177 g1 0 (na'+1), .slO 184 q.2 0 nd]))::(177,some (g1, .own 49 5 (mixes (mixS ls (na'+1) 0 0))))::(184,some (q.2, .own 104 3 (t3s (dvS ls (na'+1) 0))))::(107,some (g, .own 106 9 (lns ls)))::(102,some (1, .box [.sl [] true, .sl [] true]))::[],q.1⟩) (fun _=>True) ?_ ?_
  ·by_cases hnz:nd=0
   ·subst hnz
    have hdn:dvS ls (na'+1) 0=[]:=List.length_eq_zero_iff.1 (by rw[dvS_len];omega)
    simp only[nilC_z,nilH_z,hdn]
    refine awp_nil0 184 108 24 104 3 1 (by decide) rfl rfl rfl ?_
    first|refine uS ?_|exact uX
    repeat refine uA ?_
    refine⟨(_,ck+6), .of (Nat.le_refl _) (uHF1 @t3s_nil) uWF⟩
   ·simp only[nilC_p hnz,nilH_p hnz]
    repeat refine uA ?_
    refine⟨(_,g2),trivial,uKF⟩
  rintro⟨ck0,g2⟩ -
  repeat refine uA ?_
  refine uW ?_
  refine awp_loopW (fun q:Nat×Nat=>⟨[(2, .ptO 102 1 0 0 0),(7, .slO 107 g 0 ls.length),(8, .ptO 108 24 0 0 0),(12,I q.2)],
   (108,some (24, .box [.slO 177 g1 0 (na'+1), .slO 184 g2 0 nd]))::(177,some (g1, .own 49 5 (mixes (mixS ls (na'+1) q.2 0))))::(184,some (g2, .own 104 3 (t3s (dvS ls (na'+1) (cD (na'+1) q.2 0)))))::(107,some (g, .own 106 9 (lns ls)))::(102,some (1, .box [.sl [] true, .sl [] true]))::[],q.1⟩)
   (fun q=>q.2<=ls.length) (fun q=>ls.length - q.2) (_,0) (Nat.zero_le _) (.of (Nat.le_refl _) (uHF1 (show cD (na'+1) 0 0=0 from if_pos (by omega))) uWF) ?_
  rintro⟨ck,i⟩ hi
  simp only at hi
  repeat refine uA ?_
  refine uW ?_;refine condP _ rfl (fun h3=>?_) (fun h3=>?_)
  ·have hlt:i<ls.length:=by omega
   have hfi:=hfn i hlt
   have hdi:=hd1 i
   have hni:=hnl i hlt
   have hx0i:=hx0 i hlt
   repeat refine uA ?_
   refine uW ?_
   refine awp_loopW (fun q:Nat×Nat=>⟨[(2, .ptO 102 1 0 0 0),(7, .slO 107 g 0 ls.length),(8, .ptO 108 24 0 0 0),(12,I i),(13,I q.2)],
    (108,some (24, .box [.slO 177 g1 0 (na'+1), .slO 184 g2 0 nd]))::(177,some (g1, .own 49 5 (mixes (mixS ls (na'+1) i q.2))))::(184,some (g2, .own 104 3 (t3s (dvS ls (na'+1) (cD (na'+1) i q.2)))))::(107,some (g, .own 106 9 (lns ls)))::(102,some (1, .box [.sl [] true, .sl [] true]))::[],q.1⟩)
    (fun q=>q.2<=(ls.getD i default).names.length) (fun q=>(ls.getD i default).names.length - q.2) (_,0) (Nat.zero_le _) (.of (Nat.le_refl _) uHF uWF) ?_
   rintro⟨ck2,k⟩ hk
   simp only at hk
   have hml2:=mixS_len ls (na'+1) i k
   have hfd:=fun nm=>mixS_fnd (i:=i) (k:=k) hml nm
   have hset:=mixS_set (ls:=ls) (m:=na'+1) (i:=i) (k:=k)
   have hget:=mixS_getD (ls:=ls) (m:=na'+1) (i:=i) (k:=k) (j:=i)
   generalize e1:ls.getD i default=x at*
   repeat refine uA1 (uI (lns_getD hlt) @e1) ?_
   refine uW ?_;refine condP _ rfl (fun h4=>?_) (fun h4=>?_)
   ·have hkx:k<x.names.length:=by omega
    have hfk:=hfi k hkx
    have hsat:=find_sat ⟨(mixS ls (na'+1) i k).map (·.1),dvS ls (na'+1) (cD (na'+1) i k)⟩ (x.names.getD k .empty) (by simp only[List.length_map];omega)
    simp only[hfd] at hsat
    have hfle:fnd ls (na'+1) (x.names.getD k .empty)<=1000:=by
     rw[fnd,findN]
     split
     ·rename_i j hj
      rw[List.findIdx?_eq_some_iff_getElem] at hj
      obtain⟨hj,_⟩:=hj
      simp only[List.length_map,List.length_take] at hj
      omega
     ·omega
    have hexk:exN ls (na'+1) x (k+1)=(⟨x.nm,x.kd,x.ln,x.zn,(x.names.take k).map (fnd ls (na'+1))++[fnd ls (na'+1) (x.names.getD k .empty)]⟩,true):=by
     rw[exN,if_neg (by omega),hx0i,take_getD (d:= .empty) hkx,List.map_append];rfl
    have hdsl:(dvS ls (na'+1) (cD (na'+1) i k)).length=nd:=by rw[dvS_len];omega
    generalize hms:mixS ls (na'+1) i k=ms at*
    generalize hds:dvS ls (na'+1) (cD (na'+1) i k)=ds at*
    generalize hff:fnd ls (na'+1) (x.names.getD k .empty)=f at*
    refine uE1 (uI (lns_getD hlt) (uI @e1 (uI (strs_getD hkx) (uI @mixes_length (uI @hml2 @hdsl))))) ?_;intro K hK
    refine uH ?_
    refine callF (rc:=I f) ?_ ?_ ?_ ?_ ?_ ?_;(focus (first|exact trivial|(simp only[go_sem,Nat.reduceAdd,Nat.reduceSub,Nat.reduceMul,Nat.reduceLT,Nat.reduceEqDiff,Nat.reduceBEq,Nat.reduceLeDiff,Int.reduceToNat,↓reduceIte,Int.reduceEq,Int.reduceLT,Int.reduceLE,Int.reduceAdd,Int.reduceSub,Int.reduceNeg,reduceCtorEq,mixes_fz,mixes_fzP,mixes_fzR,mixes_length,hml2,hdsl]<;>trivial)));(focus (simp only[go_sem,Nat.reduceAdd,Nat.reduceSub,Nat.reduceMul,Nat.reduceLT,Nat.reduceEqDiff,Nat.reduceBEq,Nat.reduceLeDiff,Int.reduceToNat,↓reduceIte,Int.reduceEq,Int.reduceLT,Int.reduceLE,Int.reduceAdd,Int.reduceSub,Int.reduceNeg,reduceCtorEq,mixes_fz,mixes_fzP,mixes_fzR,mixes_length,hml2,hdsl];exact hsat));(focus (first|exact trivial|(simp only[go_sem,Nat.reduceAdd,Nat.reduceSub,Nat.reduceMul,Nat.reduceLT,Nat.reduceEqDiff,Nat.reduceBEq,Nat.reduceLeDiff,Int.reduceToNat,↓reduceIte,Int.reduceEq,Int.reduceLT,Int.reduceLE,Int.reduceAdd,Int.reduceSub,Int.reduceNeg,reduceCtorEq,mixes_fz,mixes_fzP,mixes_fzR,mixes_length,hml2,hdsl]<;>trivial)));(focus (first|exact trivial|(simp only[go_sem,Nat.reduceAdd,Nat.reduceSub,Nat.reduceMul,Nat.reduceLT,Nat.reduceEqDiff,Nat.reduceBEq,Nat.reduceLeDiff,Int.reduceToNat,↓reduceIte,Int.reduceEq,Int.reduceLT,Int.reduceLE,Int.reduceAdd,Int.reduceSub,Int.reduceNeg,reduceCtorEq,mixes_fz,mixes_fzP,mixes_fzR,mixes_length,hml2,hdsl]<;>trivial)));(focus (first|exact trivial|(simp only[go_sem,Nat.reduceAdd,Nat.reduceSub,Nat.reduceMul,Nat.reduceLT,Nat.reduceEqDiff,Nat.reduceBEq,Nat.reduceLeDiff,Int.reduceToNat,↓reduceIte,Int.reduceEq,Int.reduceLT,Int.reduceLE,Int.reduceAdd,Int.reduceSub,Int.reduceNeg,reduceCtorEq,mixes_fz,mixes_fzP,mixes_fzR,mixes_length,hml2,hdsl]<;>trivial)));first|refine uS1 (uI @mixes_fz (uI @mixes_fzP (uI @mixes_fzR (uI @mixes_length (uI @hml2 @hdsl))))) ?_|exact uX1 (uI @mixes_fz (uI @mixes_fzP (uI @mixes_fzR (uI @mixes_length (uI @hml2 @hdsl)))))
    refine uH ?_
    refine hK _ ?_;clear hK K
    repeat refine uA ?_
    refine uW ?_;refine condP _ rfl (fun h5=>?_) (fun h5=>?_)
    ·omega
    repeat refine uA1 (uI @mixes_length (uI @hml2 @hdsl)) ?_
    refine uW ?_;refine condP _ rfl (fun him=>?_) (fun him=>?_)
    ·have him':i<na'+1:=by omega
     have hims:i<ms.length:=by omega
     have hgi:=hget him'
     rw[show cnJ ls i k i=k by rw[cnJ,if_neg (Nat.lt_irrefl i),if_pos rfl]] at hgi
     have hgs:∀v,((mixes ms).set i v).getD i .bad=v:=fun v=>by
      rw[getD_set2,if_pos ⟨rfl,by rw[mixes_length];exact hims⟩]
     have hms2:∀(nm:ByteArray) (kd ln zn:Int) (ex:List Int),(mixes ms).set i (.agg [.lit (.string nm), .lit (.int .i64 kd), .lit (.int .i64 ln), .lit (.int .i64 zn), .kid 3 1 (ints ex)])=mixes (ms.set i (⟨nm,kd,ln,zn,ex⟩,true)):=fun _ _ _ _ _=>mixes_set
     have hcd:∀j,cD (na'+1) i j=cD (na'+1) i k:=fun j=>by rw[cD,cD,if_pos him',if_pos him']
     by_cases hk0:k=0
     ·have hgi0:ms.getD i default=(ndOf x,false):=by rw[hgi,exN,if_pos hk0]
      subst hk0
      (repeat first|refine awp_seq ?_|refine awp_skip ?_|refine awp_block ?_);refine awp_region_drawR hC (by kernel_rfl) (by kernel_rfl) rfl fun K hK=>?_;simp only[go_sem,Nat.reduceAdd,Nat.reduceSub,Nat.reduceMul,Nat.reduceLT,Nat.reduceEqDiff,Nat.reduceBEq,Nat.reduceLeDiff,Int.reduceToNat,↓reduceIte,Int.reduceEq,Int.reduceLT,Int.reduceLE,Int.reduceAdd,Int.reduceSub,Int.reduceNeg,reduceCtorEq,mixes_length,hml2,mixes_getD hims,hgi0,mixN,ndOf,hx0i,List.length_nil]
      refine uH ?_
      refine hK _ ?_;clear hK K
      repeat refine uA ?_
      refine⟨(_,0+1),by simp only;omega,by simp only;omega, .of (Nat.le_refl _) (by repeat (first|exact HOk.nil|refine HOk.cons rfl ?_|refine HOk.gone ?_|refine HOk.opt rfl ?_|(refine HOk.cons ?_ ?_;(focus (simp only[go_sem,Nat.reduceAdd,Nat.reduceSub,Nat.reduceMul,Nat.reduceLT,Nat.reduceEqDiff,Nat.reduceBEq,Nat.reduceLeDiff,Int.reduceToNat,↓reduceIte,Int.reduceEq,Int.reduceLT,Int.reduceLE,Int.reduceAdd,Int.reduceSub,Int.reduceNeg,reduceCtorEq,<-hset him',hexk,hms2,hgs,hcd (_+1),hds,and_self,if_false,AV.cells,List.set_set,List.take_succ_cons,List.take_zero,List.drop_succ_cons,List.drop_zero,List.cons_append,List.nil_append,List.map_nil];done)))|(refine HOk.less rfl (ObW.ofBW ?_) ?_;(focus ((repeat (first|exact BW.nil|refine BW.same ?_|(refine BW.frz ?_ ?_ ?_ ?_;(focus (first|exact trivial|(simp only[go_sem,Nat.reduceAdd,Nat.reduceSub,Nat.reduceMul,Nat.reduceLT,Nat.reduceEqDiff,Nat.reduceBEq,Nat.reduceLeDiff,Int.reduceToNat,↓reduceIte,Int.reduceEq,Int.reduceLT,Int.reduceLE,Int.reduceAdd,Int.reduceSub,Int.reduceNeg,reduceCtorEq,<-hset him',hexk,hms2,hgs,hcd (_+1),hds,and_self,if_false,AV.cells,List.set_set,List.take_succ_cons,List.take_zero,List.drop_succ_cons,List.drop_zero,List.cons_append,List.nil_append,List.map_nil]<;>trivial)));(focus (first|rfl|((simp only[go_sem,Nat.reduceAdd,Nat.reduceSub,Nat.reduceMul,Nat.reduceLT,Nat.reduceEqDiff,Nat.reduceBEq,Nat.reduceLeDiff,Int.reduceToNat,↓reduceIte,Int.reduceEq,Int.reduceLT,Int.reduceLE,Int.reduceAdd,Int.reduceSub,Int.reduceNeg,reduceCtorEq,<-hset him',hexk,hms2,hgs,hcd (_+1),hds,and_self,if_false,AV.cells,List.set_set,List.take_succ_cons,List.take_zero,List.drop_succ_cons,List.drop_zero,List.cons_append,List.nil_append,List.map_nil]<;>rfl);done)));(focus (first|(simp only[go_sem,Nat.reduceAdd,Nat.reduceSub,Nat.reduceMul,Nat.reduceLT,Nat.reduceEqDiff,Nat.reduceBEq,Nat.reduceLeDiff,Int.reduceToNat,↓reduceIte,Int.reduceEq,Int.reduceLT,Int.reduceLE,Int.reduceAdd,Int.reduceSub,Int.reduceNeg,reduceCtorEq,<-hset him',hexk,hms2,hgs,hcd (_+1),hds,and_self,if_false,AV.cells,List.set_set,List.take_succ_cons,List.take_zero,List.drop_succ_cons,List.drop_zero,List.cons_append,List.nil_append,List.map_nil];done)|((simp only[go_sem,Nat.reduceAdd,Nat.reduceSub,Nat.reduceMul,Nat.reduceLT,Nat.reduceEqDiff,Nat.reduceBEq,Nat.reduceLeDiff,Int.reduceToNat,↓reduceIte,Int.reduceEq,Int.reduceLT,Int.reduceLE,Int.reduceAdd,Int.reduceSub,Int.reduceNeg,reduceCtorEq,<-hset him',hexk,hms2,hgs,hcd (_+1),hds,and_self,if_false,AV.cells,List.set_set,List.take_succ_cons,List.take_zero,List.drop_succ_cons,List.drop_zero,List.cons_append,List.nil_append,List.map_nil]<;>simp);done)|(simp;done)))))));done)))) uWF⟩
     ·have hgi0:ms.getD i default=(⟨x.nm,x.kd,x.ln,x.zn,(x.names.take k).map (fnd ls (na'+1))⟩,true):=by rw[hgi,exN,if_neg hk0,hx0i];rfl
      have hmk:((x.names.take k).map (fnd ls (na'+1))).length<=100:=by rw[List.length_map,List.length_take];omega
      generalize (x.names.take k).map (fnd ls (na'+1))=exk at*
      (repeat first|refine awp_seq ?_|refine awp_skip ?_|refine awp_block ?_);refine awp_region_drawR hC (by kernel_rfl) (by kernel_rfl) rfl fun K hK=>?_;simp only[go_sem,Nat.reduceAdd,Nat.reduceSub,Nat.reduceMul,Nat.reduceLT,Nat.reduceEqDiff,Nat.reduceBEq,Nat.reduceLeDiff,Int.reduceToNat,↓reduceIte,Int.reduceEq,Int.reduceLT,Int.reduceLE,Int.reduceAdd,Int.reduceSub,Int.reduceNeg,reduceCtorEq,mixes_length,hml2,mixes_getD hims,hgi0,mixN]
      refine uH ?_
      refine hK _ ?_;clear hK K
      repeat refine uA ?_
      refine⟨(_,k+1),by simp only;omega,by simp only;omega, .of (Nat.le_refl _) (by repeat (first|exact HOk.nil|refine HOk.cons rfl ?_|refine HOk.gone ?_|refine HOk.opt rfl ?_|(refine HOk.cons ?_ ?_;(focus (simp only[go_sem,Nat.reduceAdd,Nat.reduceSub,Nat.reduceMul,Nat.reduceLT,Nat.reduceEqDiff,Nat.reduceBEq,Nat.reduceLeDiff,Int.reduceToNat,↓reduceIte,Int.reduceEq,Int.reduceLT,Int.reduceLE,Int.reduceAdd,Int.reduceSub,Int.reduceNeg,reduceCtorEq,<-hset him',hexk,hms2,hgs,hcd (_+1),hds,and_self,if_false,AV.cells,List.set_set,List.take_succ_cons,List.take_zero,List.drop_succ_cons,List.drop_zero,List.cons_append,List.nil_append,List.map_nil];done)))|(refine HOk.less rfl (ObW.ofBW ?_) ?_;(focus ((repeat (first|exact BW.nil|refine BW.same ?_|(refine BW.frz ?_ ?_ ?_ ?_;(focus (first|exact trivial|(simp only[go_sem,Nat.reduceAdd,Nat.reduceSub,Nat.reduceMul,Nat.reduceLT,Nat.reduceEqDiff,Nat.reduceBEq,Nat.reduceLeDiff,Int.reduceToNat,↓reduceIte,Int.reduceEq,Int.reduceLT,Int.reduceLE,Int.reduceAdd,Int.reduceSub,Int.reduceNeg,reduceCtorEq,<-hset him',hexk,hms2,hgs,hcd (_+1),hds,and_self,if_false,AV.cells,List.set_set,List.take_succ_cons,List.take_zero,List.drop_succ_cons,List.drop_zero,List.cons_append,List.nil_append,List.map_nil]<;>trivial)));(focus (first|rfl|((simp only[go_sem,Nat.reduceAdd,Nat.reduceSub,Nat.reduceMul,Nat.reduceLT,Nat.reduceEqDiff,Nat.reduceBEq,Nat.reduceLeDiff,Int.reduceToNat,↓reduceIte,Int.reduceEq,Int.reduceLT,Int.reduceLE,Int.reduceAdd,Int.reduceSub,Int.reduceNeg,reduceCtorEq,<-hset him',hexk,hms2,hgs,hcd (_+1),hds,and_self,if_false,AV.cells,List.set_set,List.take_succ_cons,List.take_zero,List.drop_succ_cons,List.drop_zero,List.cons_append,List.nil_append,List.map_nil]<;>rfl);done)));(focus (first|(simp only[go_sem,Nat.reduceAdd,Nat.reduceSub,Nat.reduceMul,Nat.reduceLT,Nat.reduceEqDiff,Nat.reduceBEq,Nat.reduceLeDiff,Int.reduceToNat,↓reduceIte,Int.reduceEq,Int.reduceLT,Int.reduceLE,Int.reduceAdd,Int.reduceSub,Int.reduceNeg,reduceCtorEq,<-hset him',hexk,hms2,hgs,hcd (_+1),hds,and_self,if_false,AV.cells,List.set_set,List.take_succ_cons,List.take_zero,List.drop_succ_cons,List.drop_zero,List.cons_append,List.nil_append,List.map_nil];done)|((simp only[go_sem,Nat.reduceAdd,Nat.reduceSub,Nat.reduceMul,Nat.reduceLT,Nat.reduceEqDiff,Nat.reduceBEq,Nat.reduceLeDiff,Int.reduceToNat,↓reduceIte,Int.reduceEq,Int.reduceLT,Int.reduceLE,Int.reduceAdd,Int.reduceSub,Int.reduceNeg,reduceCtorEq,<-hset him',hexk,hms2,hgs,hcd (_+1),hds,and_self,if_false,AV.cells,List.set_set,List.take_succ_cons,List.take_zero,List.drop_succ_cons,List.drop_zero,List.cons_append,List.nil_append,List.map_nil]<;>simp);done)|(simp;done)))))));done)))) uWF⟩
    ·have hdi':=hdi (by omega) hlt
     obtain rfl:k=0:=by omega
     obtain⟨d,hd⟩:∃d,i=na'+1+d:=⟨i - (na'+1),by omega⟩
     have hc0:cD (na'+1) i 0=d:=by rw[cD,if_neg (by omega)];omega
     have hc1:cD (na'+1) i (0+1)=d+1:=by rw[cD,if_neg (by omega)];omega
     have hdn:d<ls.length - (na'+1):=by omega
     have hg3:=dvS_getD (ls:=ls) (m:=na'+1) (d:=d) hdn
     have hs3:=dvS_set (ls:=ls) (m:=na'+1) (d:=d) hdn
     rw[if_neg (Nat.lt_irrefl d)] at hg3
     rw[<-hd,e1] at hg3 hs3
     rw[hc0] at hds
     rw[hds] at hg3 hs3
     rw[hff] at hs3
     have hdl:d<ds.length:=by omega
     have hkt3:(i:Int) - ((na':Int)+1)=d:=by omega
     have hkt4:(i:Int) - ((na'+1:Nat):Int)=d:=by omega
     have hmg:mixS ls (na'+1) i (0+1)=ms:=by rw[<-hms];exact mixS_ge (by omega)
     (repeat first|refine awp_seq ?_|refine awp_skip ?_|refine awp_block ?_);refine awp_region hC rfl fun K hK=>?_;simp only[go_sem,Nat.reduceAdd,Nat.reduceSub,Nat.reduceMul,Nat.reduceLT,Nat.reduceEqDiff,Nat.reduceBEq,Nat.reduceLeDiff,Int.reduceToNat,↓reduceIte,Int.reduceEq,Int.reduceLT,Int.reduceLE,Int.reduceAdd,Int.reduceSub,Int.reduceNeg,reduceCtorEq,mixes_length,hml2,hkt3,hkt4,t3s_getD hdl,hg3,dvOf]
     refine uH ?_
     refine hK _ ?_;clear hK K
     repeat refine uA ?_
     refine⟨(_,0+1),by simp only;omega,by simp only;omega, .of (Nat.le_refl _) (by repeat (first|exact HOk.nil|refine HOk.cons rfl ?_|refine HOk.gone ?_|refine HOk.opt rfl ?_|(refine HOk.cons ?_ ?_;(focus (simp only[go_sem,Nat.reduceAdd,Nat.reduceSub,Nat.reduceMul,Nat.reduceLT,Nat.reduceEqDiff,Nat.reduceBEq,Nat.reduceLeDiff,Int.reduceToNat,↓reduceIte,Int.reduceEq,Int.reduceLT,Int.reduceLE,Int.reduceAdd,Int.reduceSub,Int.reduceNeg,reduceCtorEq,hmg,hc1,<-hs3,and_self,if_false];done)))|(refine HOk.less rfl (ObW.ofBW ?_) ?_;(focus ((repeat (first|exact BW.nil|refine BW.same ?_|(refine BW.frz ?_ ?_ ?_ ?_;(focus (first|exact trivial|(simp only[go_sem,Nat.reduceAdd,Nat.reduceSub,Nat.reduceMul,Nat.reduceLT,Nat.reduceEqDiff,Nat.reduceBEq,Nat.reduceLeDiff,Int.reduceToNat,↓reduceIte,Int.reduceEq,Int.reduceLT,Int.reduceLE,Int.reduceAdd,Int.reduceSub,Int.reduceNeg,reduceCtorEq,hmg,hc1,<-hs3,and_self,if_false]<;>trivial)));(focus (first|rfl|((simp only[go_sem,Nat.reduceAdd,Nat.reduceSub,Nat.reduceMul,Nat.reduceLT,Nat.reduceEqDiff,Nat.reduceBEq,Nat.reduceLeDiff,Int.reduceToNat,↓reduceIte,Int.reduceEq,Int.reduceLT,Int.reduceLE,Int.reduceAdd,Int.reduceSub,Int.reduceNeg,reduceCtorEq,hmg,hc1,<-hs3,and_self,if_false]<;>rfl);done)));(focus (first|(simp only[go_sem,Nat.reduceAdd,Nat.reduceSub,Nat.reduceMul,Nat.reduceLT,Nat.reduceEqDiff,Nat.reduceBEq,Nat.reduceLeDiff,Int.reduceToNat,↓reduceIte,Int.reduceEq,Int.reduceLT,Int.reduceLE,Int.reduceAdd,Int.reduceSub,Int.reduceNeg,reduceCtorEq,hmg,hc1,<-hs3,and_self,if_false];done)|((simp only[go_sem,Nat.reduceAdd,Nat.reduceSub,Nat.reduceMul,Nat.reduceLT,Nat.reduceEqDiff,Nat.reduceBEq,Nat.reduceLeDiff,Int.reduceToNat,↓reduceIte,Int.reduceEq,Int.reduceLT,Int.reduceLE,Int.reduceAdd,Int.reduceSub,Int.reduceNeg,reduceCtorEq,hmg,hc1,<-hs3,and_self,if_false]<;>simp);done)|(simp;done)))))));done)))) uWF⟩
   ·refine awp_exit ?_
    obtain rfl:k=x.names.length:=by omega
    have hmn2:mixS ls (na'+1) i x.names.length=mixS ls (na'+1) (i+1) 0:=by rw[<-e1];exact mixS_next ls (na'+1) i
    have hcn2:cD (na'+1) i x.names.length=cD (na'+1) (i+1) 0:=cD_next (fun h=>hdi h hlt)
    repeat refine uA ?_
    refine⟨(_,i+1),by simp only;omega,by simp only;omega, .of (Nat.le_refl _) (uHF1 (uI @hmn2 @hcn2)) uWF⟩
  ·refine awp_exit ?_
   obtain rfl:i=ls.length:=by omega
   have hmf:mixS ls (na'+1) ls.length 0=mixS ls (na'+1) (na'+1) 0:=by
    unfold mixS
    refine List.map_congr_left fun j hj=>?_
    have:=List.mem_range.1 hj
    rw[cnJ,cnJ,if_pos (by omega),if_pos (by omega)]
   have hcf:cD (na'+1) ls.length 0=ls.length - (na'+1):=by rw[cD,if_neg (by omega)];rfl
   rw[hmf,hcf]
   have hv:=rvalidate_sat (prsY ls (na'+1)) hs7
   rw[hval] at hv
   have hY:prsY ls (na'+1)=⟨(mixS ls (na'+1) (na'+1) 0).map (·.1),dvS ls (na'+1) (ls.length - (na'+1))⟩:=rfl
   rw[hY] at hv ⊢
   have hml2:=mixS_len ls (na'+1) (na'+1) 0
   have hdsl:(dvS ls (na'+1) (ls.length - (na'+1))).length=nd:=by rw[dvS_len];omega
   generalize mixS ls (na'+1) (na'+1) 0=ms at*
   generalize dvS ls (na'+1) (ls.length - (na'+1))=ds at*
   refine uR ?_;intro K hK
   refine callF (rc:=I 0) ?_ ?_ ?_ ?_ ?_ ?_;(focus (first|exact trivial|(simp only[go_sem,Nat.reduceAdd,Nat.reduceSub,Nat.reduceMul,Nat.reduceLT,Nat.reduceEqDiff,Nat.reduceBEq,Nat.reduceLeDiff,Int.reduceToNat,↓reduceIte,Int.reduceEq,Int.reduceLT,Int.reduceLE,Int.reduceAdd,Int.reduceSub,Int.reduceNeg,reduceCtorEq,mixes_fz,mixes_fzP,mixes_fzR,mixes_length,hml2,hdsl]<;>trivial)));(focus (simp only[go_sem,Nat.reduceAdd,Nat.reduceSub,Nat.reduceMul,Nat.reduceLT,Nat.reduceEqDiff,Nat.reduceBEq,Nat.reduceLeDiff,Int.reduceToNat,↓reduceIte,Int.reduceEq,Int.reduceLT,Int.reduceLE,Int.reduceAdd,Int.reduceSub,Int.reduceNeg,reduceCtorEq,mixes_fz,mixes_fzP,mixes_fzR,mixes_length,hml2,hdsl];exact hv));(focus (first|exact trivial|(simp only[go_sem,Nat.reduceAdd,Nat.reduceSub,Nat.reduceMul,Nat.reduceLT,Nat.reduceEqDiff,Nat.reduceBEq,Nat.reduceLeDiff,Int.reduceToNat,↓reduceIte,Int.reduceEq,Int.reduceLT,Int.reduceLE,Int.reduceAdd,Int.reduceSub,Int.reduceNeg,reduceCtorEq,mixes_fz,mixes_fzP,mixes_fzR,mixes_length,hml2,hdsl]<;>trivial)));(focus (first|exact trivial|(simp only[go_sem,Nat.reduceAdd,Nat.reduceSub,Nat.reduceMul,Nat.reduceLT,Nat.reduceEqDiff,Nat.reduceBEq,Nat.reduceLeDiff,Int.reduceToNat,↓reduceIte,Int.reduceEq,Int.reduceLT,Int.reduceLE,Int.reduceAdd,Int.reduceSub,Int.reduceNeg,reduceCtorEq,mixes_fz,mixes_fzP,mixes_fzR,mixes_length,hml2,hdsl]<;>trivial)));(focus (first|exact trivial|(simp only[go_sem,Nat.reduceAdd,Nat.reduceSub,Nat.reduceMul,Nat.reduceLT,Nat.reduceEqDiff,Nat.reduceBEq,Nat.reduceLeDiff,Int.reduceToNat,↓reduceIte,Int.reduceEq,Int.reduceLT,Int.reduceLE,Int.reduceAdd,Int.reduceSub,Int.reduceNeg,reduceCtorEq,mixes_fz,mixes_fzP,mixes_fzR,mixes_length,hml2,hdsl]<;>trivial)));first|refine uS1 (uI @mixes_fz (uI @mixes_fzP (uI @mixes_fzR (uI @mixes_length (uI @hml2 @hdsl))))) ?_|exact uX1 (uI @mixes_fz (uI @mixes_fzP (uI @mixes_fzR (uI @mixes_length (uI @hml2 @hdsl)))))
   refine uH ?_
   refine hK _ ?_;clear hK K
   repeat refine uA ?_
   refine uF ?_
   repeat refine uA ?_
   refine awp_ret ?_;rw[show Tryz.f40.results.toList=[.cell 2 30, .tmp 3, .tmp 4] from rfl];first|refine uRN1 (uI @mixes_fz (uI @mixes_fzP (uI @mixes_fzR (uI @mixes_length (uI @hml2 @hdsl))))) ?_|exact uRM1 (uI @mixes_fz (uI @mixes_fzP (uI @mixes_fzR (uI @mixes_length (uI @hml2 @hdsl)))))
open Go.Plant
def aS:ByteArray:=⟨#[101,110,116,114,121,32,65,32,50,32,48,32,62,32,71,10,103,97,116,101,32,71,32,49,32,48,32,62,32,77,32,67,10,99,104,117,116,101,32,67,32,49,10,109,97,110,117,97,108,32,77,32,48,10,115,99,97,110,110,101,114,32,71,32,48,10]⟩
def aT0:ByteArray:=⟨#[101,110,116,114,121,32,65,32,50,32,48,32,62,32,71]⟩
def aW0:List ByteArray:=[⟨#[101,110,116,114,121]⟩,⟨#[65]⟩,⟨#[50]⟩,⟨#[48]⟩,⟨#[62]⟩,⟨#[71]⟩]
def aT1:ByteArray:=⟨#[103,97,116,101,32,71,32,49,32,48,32,62,32,77,32,67]⟩
def aW1:List ByteArray:=[⟨#[103,97,116,101]⟩,⟨#[71]⟩,⟨#[49]⟩,⟨#[48]⟩,⟨#[62]⟩,⟨#[77]⟩,⟨#[67]⟩]
def aT2:ByteArray:=⟨#[99,104,117,116,101,32,67,32,49]⟩
def aW2:List ByteArray:=[⟨#[99,104,117,116,101]⟩,⟨#[67]⟩,⟨#[49]⟩]
def aT3:ByteArray:=⟨#[109,97,110,117,97,108,32,77,32,48]⟩
def aW3:List ByteArray:=[⟨#[109,97,110,117,97,108]⟩,⟨#[77]⟩,⟨#[48]⟩]
def aT4:ByteArray:=⟨#[115,99,97,110,110,101,114,32,71,32,48]⟩
def aW4:List ByteArray:=[⟨#[115,99,97,110,110,101,114]⟩,⟨#[71]⟩,⟨#[48]⟩]
def aT:List ByteArray:=[aT0,aT1,aT2,aT3,aT4]
def aL:List Ln:=[rdN aW0 1,rdN aW1 6,rdN aW2 8,rdN aW3 9,rdS aW4]
theorem aN0:RdN aW0 1 where
 kr:=by decide
 len:=by decide+kernel
 w0:=fun j h1 h2=>(by decide+kernel:∀j,j<10->1<=j->eqB (wordsB.getD j .empty) (aW0.getD 0 .empty)=decide ((j:Int)=1)) j (by omega) h1
 ph:=by decide+kernel
 nm:=by decide+kernel
 n2:=by decide+kernel
 zn:=by decide+kernel
 ar:=by decide+kernel
 ex:=by decide+kernel
theorem aN1:RdN aW1 6 where
 kr:=by decide
 len:=by decide+kernel
 w0:=fun j h1 h2=>(by decide+kernel:∀j,j<10->1<=j->eqB (wordsB.getD j .empty) (aW1.getD 0 .empty)=decide ((j:Int)=6)) j (by omega) h1
 ph:=by decide+kernel
 nm:=by decide+kernel
 n2:=by decide+kernel
 zn:=by decide+kernel
 ar:=by decide+kernel
 ex:=by decide+kernel
theorem aN2:RdN aW2 8 where
 kr:=by decide
 len:=by decide+kernel
 w0:=fun j h1 h2=>(by decide+kernel:∀j,j<10->1<=j->eqB (wordsB.getD j .empty) (aW2.getD 0 .empty)=decide ((j:Int)=8)) j (by omega) h1
 ph:=by decide+kernel
 nm:=by decide+kernel
 n2:=by decide+kernel
 zn:=by decide+kernel
 ar:=by decide+kernel
 ex:=by decide+kernel
theorem aN3:RdN aW3 9 where
 kr:=by decide
 len:=by decide+kernel
 w0:=fun j h1 h2=>(by decide+kernel:∀j,j<10->1<=j->eqB (wordsB.getD j .empty) (aW3.getD 0 .empty)=decide ((j:Int)=9)) j (by omega) h1
 ph:=by decide+kernel
 nm:=by decide+kernel
 n2:=by decide+kernel
 zn:=by decide+kernel
 ar:=by decide+kernel
 ex:=by decide+kernel
theorem aPrs:Prs aS aT aL 4 where
 len:=by decide+kernel
 sp:=by decide+kernel
 tl:=by decide+kernel
 ll:=by decide+kernel
 ml:=by decide+kernel
 m0:=by decide
 nd:=by decide+kernel
 dv:=fun i h1 h2=>by
  have h3:i<5:=h2
  obtain rfl:i=4:=by omega
  decide+kernel
 fn:=by decide+kernel
 x0:=by decide+kernel
 d1:=fun i h1 h2=>by
  have h3:i<5:=h2
  obtain rfl:i=4:=by omega
  decide+kernel
 nl:=by decide+kernel
 rd:=fun i h=>by
  have h3:i<5:=h
  have h4:i=0\/i=1\/i=2\/i=3\/i=4:=by omega
  rcases h4 with rfl|rfl|rfl|rfl|rfl
  ·exact read_node aT0 aW0 1 (by decide+kernel) (by decide+kernel) aN0
  ·exact read_node aT1 aW1 6 (by decide+kernel) (by decide+kernel) aN1
  ·exact read_node aT2 aW2 8 (by decide+kernel) (by decide+kernel) aN2
  ·exact read_node aT3 aW3 9 (by decide+kernel) (by decide+kernel) aN3
  ·exact read_scan aT4 aW4 (by decide+kernel) (by decide+kernel) (by decide+kernel) (by decide+kernel) (by decide+kernel) (by decide+kernel)
def aY:Ly:=⟨[⟨⟨#[65]⟩,1,2,0,[1]⟩,⟨⟨#[71]⟩,6,1,0,[3,2]⟩,⟨⟨#[67]⟩,8,0,1,[]⟩,⟨⟨#[77]⟩,9,0,0,[]⟩],[⟨2,1,0⟩]⟩
theorem map_inj' {α β:Type} {f:α->β} (hf:∀x y,f x=f y->x=y):∀(a b:List α),a.map f=b.map f->a=b
 |[],[],_=>rfl
 |[],_::_,h=>by cases h
 |_::_,[],h=>by cases h
 |x::a,y::b,h=>by
  simp only[List.map_cons,List.cons.injEq] at h
  rw[hf _ _ h.1,map_inj' hf a b h.2]
theorem aY_eq:prsY aL 4=aY:=by
 have h1:(prsY aL 4).nodes.map (fun x=>(x.nm,x.kd,x.ln,x.zn,x.ex))=aY.nodes.map (fun x=>(x.nm,x.kd,x.ln,x.zn,x.ex)):=by decide+kernel
 have h2:(prsY aL 4).devs.map (fun x=>(x.a,x.b,x.c))=aY.devs.map (fun x=>(x.a,x.b,x.c)):=by decide+kernel
 have inj1:=map_inj' (f:=fun x:Nd=>(x.nm,x.kd,x.ln,x.zn,x.ex)) fun x y hxy=>by
  cases x;cases y;simp only[Prod.mk.injEq] at hxy;obtain⟨rfl,rfl,rfl,rfl,rfl⟩:=hxy;rfl
 have inj2:=map_inj' (f:=fun x:T3=>(x.a,x.b,x.c)) fun x y hxy=>by
  cases x;cases y;simp only[Prod.mk.injEq] at hxy;obtain⟨rfl,rfl,rfl⟩:=hxy;rfl
 have e1:=inj1 _ _ h1
 have e2:=inj2 _ _ h2
 generalize prsY aL 4=y at*
 cases y
 simp only at e1 e2
 rw[e1,e2]
theorem aSml:Sml7 aY:=⟨by decide+kernel,by decide+kernel,by decide+kernel,by decide+kernel⟩
theorem aVal:validE aY=0:=by decide+kernel
open Go.Plant
def aP0:Pl:=⟨[[0,0],[0],[],[]],[[],[],[],[]]⟩
def aP1:Pl:=⟨[[7,0],[0],[],[]],[[],[],[],[]]⟩
def aP2:Pl:=⟨[[0,7],[0],[],[]],[[],[],[],[]]⟩
def aP3:Pl:=⟨[[0,0],[7],[],[]],[[],[],[],[]]⟩
def aP4:Pl:=⟨[[0,0],[0],[],[]],[[],[],[7],[]]⟩
def aC:List Int:=[0,1,0,0]
theorem pl_ext {p q:Pl} (h1:p.slots=q.slots) (h2:p.bins=q.bins):p=q:=by cases p;cases q;simp only at h1 h2;rw[h1,h2]
theorem t3_ext {a b:List T3} (h:a.map (fun x=>(x.a,x.b,x.c))=b.map (fun x=>(x.a,x.b,x.c))):a=b:=
 map_inj' (f:=fun x:T3=>(x.a,x.b,x.c)) (fun x y hxy=>by
  cases x;cases y;simp only[Prod.mk.injEq] at hxy;obtain⟨rfl,rfl,rfl⟩:=hxy;rfl) _ _ h
theorem aNew:newP aY=aP0:=pl_ext (by decide+kernel) (by decide+kernel)
theorem aFit0:FitP aY.nodes aP0:=⟨by decide+kernel,by decide+kernel,by decide+kernel,by decide+kernel,by decide+kernel,by decide+kernel,by decide+kernel,by decide+kernel⟩
theorem aFit1:FitP aY.nodes aP1:=⟨by decide+kernel,by decide+kernel,by decide+kernel,by decide+kernel,by decide+kernel,by decide+kernel,by decide+kernel,by decide+kernel⟩
theorem aFit2:FitP aY.nodes aP2:=⟨by decide+kernel,by decide+kernel,by decide+kernel,by decide+kernel,by decide+kernel,by decide+kernel,by decide+kernel,by decide+kernel⟩
theorem aFit3:FitP aY.nodes aP3:=⟨by decide+kernel,by decide+kernel,by decide+kernel,by decide+kernel,by decide+kernel,by decide+kernel,by decide+kernel,by decide+kernel⟩
theorem aEx:ExOk aY.nodes:=by unfold ExOk;decide+kernel
theorem aEnter:(enterR aY aP0 0 7).1=aP1/\(enterR aY aP0 0 7).2=0:=⟨pl_ext (by decide+kernel) (by decide+kernel),by decide+kernel⟩
theorem aFF:FitF aY.nodes []:=⟨by simp,fun i hi=>by simp at hi⟩
def aLV (p:Pl):List Int×List Int:=flows aY.nodes p (wnts aY.nodes p aC [] aY.nodes.length) (order aY.nodes)
theorem aStep1:SatG Tryz.prog tab 16 [] [aY.av,aP1.av,IS aC, .sl (t3s []) false] [] (.tup [aP2.av, .sl (t3s []) false,I 0]):=by
 have h:=pstep_ok aY aP1 aC [] aSml aVal aEx aFit1 (by decide+kernel) (by decide+kernel) (by decide+kernel) aFF (by decide+kernel) (by decide+kernel) (by decide+kernel) (aLV aP1).1 (aLV aP1).2 (by decide+kernel) (by unfold LvOk;decide+kernel) (by decide+kernel) rfl
 have e1:(stepP aY.nodes aP1 aC [] (aLV aP1).1).1=aP2:=pl_ext (by decide+kernel) (by decide+kernel)
 have e2:(stepP aY.nodes aP1 aC [] (aLV aP1).1).2=[]:=t3_ext (by decide+kernel)
 rw[e1,e2] at h
 exact h
theorem aStep2:SatG Tryz.prog tab 16 [] [aY.av,aP2.av,IS aC, .sl (t3s []) false] [] (.tup [aP3.av, .sl (t3s [⟨7,0,1⟩]) false,I 0]):=by
 have h:=pstep_ok aY aP2 aC [] aSml aVal aEx aFit2 (by decide+kernel) (by decide+kernel) (by decide+kernel) aFF (by decide+kernel) (by decide+kernel) (by decide+kernel) (aLV aP2).1 (aLV aP2).2 (by decide+kernel) (by unfold LvOk;decide+kernel) (by decide+kernel) rfl
 have e1:(stepP aY.nodes aP2 aC [] (aLV aP2).1).1=aP3:=pl_ext (by decide+kernel) (by decide+kernel)
 have e2:(stepP aY.nodes aP2 aC [] (aLV aP2).1).2=[⟨7,0,1⟩]:=t3_ext (by decide+kernel)
 rw[e1,e2] at h
 exact h
theorem aStep3:SatG Tryz.prog tab 16 [] [aY.av,aP3.av,IS aC, .sl (t3s []) false] [] (.tup [aP4.av, .sl (t3s [⟨7,1,2⟩]) false,I 0]):=by
 have h:=pstep_ok aY aP3 aC [] aSml aVal aEx aFit3 (by decide+kernel) (by decide+kernel) (by decide+kernel) aFF (by decide+kernel) (by decide+kernel) (by decide+kernel) (aLV aP3).1 (aLV aP3).2 (by decide+kernel) (by unfold LvOk;decide+kernel) (by decide+kernel) rfl
 have e1:(stepP aY.nodes aP3 aC [] (aLV aP3).1).1=aP4:=pl_ext (by decide+kernel) (by decide+kernel)
 have e2:(stepP aY.nodes aP3 aC [] (aLV aP3).1).2=[⟨7,1,2⟩]:=t3_ext (by decide+kernel)
 rw[e1,e2] at h
 exact h
theorem awake_sat:SatG Tryz.prog tab 10 [] [] [] (B true):=by
 have hpa:=parse_sat aS aT aL 4 aPrs (by rw[aY_eq];exact aSml) (by rw[aY_eq];exact aVal)
 rw[aY_eq] at hpa
 have hnw:=pnew_sat aY aSml (fun _=>by decide+kernel)
 rw[aNew,aVal] at hnw
 have hen:=penter_sat aY aP0 0 7 aFit0
 rw[aEnter.1,aEnter.2] at hen
 have hs1:=aStep1
 have hs2:=aStep2
 have hs3:=aStep3
 have hwh:=pwhere_sat aP4 7 (by decide+kernel) (by decide+kernel) (by decide+kernel) (by decide+kernel)
 have hwe:whereQ aP4 7=(2,-1,true):=by decide+kernel
 rw[hwe] at hwh
 have hbo:=pbound_sat aY 2 aSml
 have hbe:clampN 2*winR aY=6:=by decide+kernel
 rw[hbe] at hbo
 obtain⟨y,hy⟩:∃y,y=aY:=⟨_,rfl⟩
 rw[<-hy] at hpa hnw hen hs1 hs2 hs3 hbo
 generalize aP0=p0 at*
 generalize aP1=p1 at*
 generalize aP2=p2 at*
 generalize aP3=p3 at*
 generalize aP4=p4 at*
 unfold aS at hpa
 unfold aC at hs1 hs2 hs3
 refine uFN Tryz.func10 Tryz.ntmps10 ?_;intro w e X hC
 refine uA ?_
 refine uR ?_;intro K hK
 refine callP uTS (hpa) uTS uTS uTS ?_;refine uS ?_
 refine hK _ ?_;clear hK K
 refine uR ?_;intro K hK
 refine callP uTS (hnw) uTS uTS uTS ?_;refine uS ?_
 refine hK _ ?_;clear hK K
 refine uR ?_;intro K hK
 refine callP uTS (hen) uTS uTS uTS ?_;refine uS ?_
 refine hK _ ?_;clear hK K
 refine uA ?_
 refine awp_weak (s':=⟨[(1, .ptO 101 7 0 0 0),(4, .ptO 104 16 0 0 0),(5,I 0),(6,I 0),(7,IS [0,1,0,0])],(104,some (16, .box [RS p1.slots,RS p1.bins]))::(101,some (7, .box [.sl (nds y.nodes) false, .sl (t3s y.devs) false]))::[],_⟩) (.of (Nat.le_refl _) (by repeat first|exact HOk.nil|refine uHN ?_|(refine HOk.cons ?_ ?_;(focus (simp only[go_sem,Nat.reduceAdd,Nat.reduceSub,Nat.reduceMul,Nat.reduceLT,Nat.reduceEqDiff,Nat.reduceBEq,Nat.reduceLeDiff,Int.reduceToNat,↓reduceIte,Int.reduceEq,Int.reduceLT,Int.reduceLE,Int.reduceAdd,Int.reduceSub,Int.reduceNeg,reduceCtorEq];done)))) (by repeat first|exact WOk.nil|refine uWN ?_|(refine WOk.cons ?_ ?_;(focus (simp only[go_sem,Nat.reduceAdd,Nat.reduceSub,Nat.reduceMul,Nat.reduceLT,Nat.reduceEqDiff,Nat.reduceBEq,Nat.reduceLeDiff,Int.reduceToNat,↓reduceIte,Int.reduceEq,Int.reduceLT,Int.reduceLE,Int.reduceAdd,Int.reduceSub,Int.reduceNeg,reduceCtorEq,ints,List.map_cons,List.map_nil];done))))) ?_
 refine uR ?_;intro K hK
 refine callP uTS (hs1) uTS uTS uTS ?_;refine uS ?_
 refine hK _ ?_;clear hK K
 refine uR ?_;intro K hK
 refine callP uTS (hs2) uTS uTS uTS ?_;refine uS ?_
 refine hK _ ?_;clear hK K
 refine uR ?_;intro K hK
 refine callP uTS (hs3) uTS uTS uTS ?_;refine uS ?_
 refine hK _ ?_;clear hK K
 refine uR ?_;intro K hK
 refine callP uTS (hwh) uTS uTS uTS ?_;refine uS ?_
 refine hK _ ?_;clear hK K
 have hl1:0<[(⟨7,0,1⟩:T3)].length:=by decide
 have hl2:0<[(⟨7,1,2⟩:T3)].length:=by decide
 have hone:decide (((1:Nat):Int)=1)=true:=rfl
 refine uR1 (uI @hone (uI @t3s_length (uI (t3s_getD hl1) (uI (t3s_getD hl2) (uI @Int.toNat_zero (uI @List.length_singleton.{0} @Bool.and_self)))))) ?_;intro K hK
 refine uH ?_
 refine callF uTS (hbo) uTS uTS uTS ?_;refine uS ?_
 refine uH ?_
 refine hK _ ?_;clear hK K
 (refine awp_ret (ret1 uRT ?_);try rfl)
end Go.Proofs.YtkhjenddapaejaaGreatDoor
namespace Go.Sym
open Go Go.Deep Go.ChangeShapes Go.WideShapes Go.ChangeAt Go.RowKit
section
variable {H:Type} {enc:TypeId×Value->H} {P:Program} {W W':World}
theorem trodAll_below (hl:laidOutB P=true) (hb:Below W.heap.size W W'):∀{ts:List TypeId} {vs:List Value} {ds:List (DataW H)} {ps:List MemPlace},(∀t∈ts,P.readableRec t=true/\t<P.types.size)->
  DataW.TrodAll enc P W 0 (fun _=>true) true ts vs ds ps->(∀x∈ps,x.block<W.heap.size)->DataW.TrodAll enc P W' 0 (fun b=>decide (b<W.heap.size)) true ts vs ds ps
 |[],vs,ds,ps,_,h,_=>by obtain⟨rfl,rfl,rfl⟩:=trodAll_nil h;exact trodAll_mk0
 |t::ts,vs,ds,ps,ht,h,hlt=>by
  obtain⟨v,vs',d,ds',p,q,rfl,rfl,rfl,h1,h2⟩:=trodAll_cons h
  have:=ht t (by simp)
  exact⟨p,q,Below.trod hl this.1 this.2 h1 hb fun x hx=>hlt x (by simp[hx]),trodAll_below hl hb (fun t' h'=>ht t' (by simp[h'])) h2 fun x hx=>hlt x (by simp[hx]),rfl⟩
theorem wf_i64 {a:Int} (h:(Lit.int .i64 a).wf=true):-9223372036854775808<=a/\a<=9223372036854775807:=by
 have h1:(decide (IntKind.min .i64<=a)&&decide (a<=IntKind.max .i64))=true:=h
 have e1:IntKind.min .i64=-9223372036854775808:=by decide
 have e2:IntKind.max .i64=9223372036854775807:=by decide
 rw[e1,e2] at h1
 simpa using h1
variable {U:Nat->Prop} {t e q:TypeId} {v:Value} {d:DataW H} {ps:List MemPlace}
theorem cell_spot {w:World} {a:Addr} {x:Value} (h:w.cell? a=some x):a=⟨a.block,a.off,none⟩/\a.block<w.heap.size:=by
 unfold World.cell? at h
 split at h
 ·rename_i c _ _ hb
  split at h
  ·cases h
  ·rename_i hs
   refine⟨?_,(Array.getElem?_eq_some_iff.1 hb).1⟩
   cases a with
   |mk b o s=>cases s<;>simp_all
 ·cases h
theorem VD.ints_mk (hU:∀b,U b) {a:Addr} {len cap:Nat} {zs:List Int} (hl:len<=cap) (hm:cap<=maxLen) (hz:zs.length=cap) (hc:∀i,i<cap->W.cell? (a.add i)=some (.int .i64 (zs.getD i 0))):
  VD W U (IS (zs.take len)) (.slice (some a) len cap):=by
 by_cases h0:cap=0
 ·obtain rfl:len=0:=by omega
  subst h0
  rw[List.take_zero]
  exact .nil _ _
 ·have h1:=cell_spot (hc 0 (by omega))
  have e:a=⟨a.block,a.off,none⟩:=h1.1
  have hlen:(zs.take len).length=len:=by simp;omega
  have:=VD.sl (w:=W) (U:=U) (ints (zs.take len)) false a.block a.off cap 1 (fun i=> .int .i64 (zs.getD i 0)) (hU _) h1.2 (by rw[ints_length,hlen];exact hl) hm (by simp) (by omega)
   (by intro i hi;simp[ints,AV.cells,I]) (by
    intro j hj
    rw[ints_length,hlen,Nat.mul_one] at hj
    have h2:=hc j (by omega)
    rw[e,add_plain] at h2
    exact h2) (by
    intro i hi j hj
    simp only[ints,List.getElem_map,I,AV.cells] at hj ⊢
    simp at hj;subst hj;rfl) (by
    intro i hi j hj
    rw[ints_length,hlen] at hi
    simp only[ints,List.getElem_map,I,AV.cells,List.getElem_take] at hj ⊢
    simp at hj;subst hj
    simp only[List.getElem_cons_zero,Nat.mul_one,Nat.add_zero]
    have:zs.getD i 0=zs[i]'(by omega):=by simp[show i<zs.length by omega]
    rw[this]
    exact .lit _ rfl)
  rw[ints_length,hlen] at this
  rw[<-e] at this
  exact this
theorem arg_ints (hU:∀b,U b) (ht:P.underlying t=some (.slice e)) (he:P.underlying e=some (.int .i64)) (hc:P.cellsOf e=1) (hval:Value.okWide P W .any 0 t v)
  (hd:DataW.Trod enc P W 0 (fun _=>true) true t v d ps):∃zs:List Int,zs.length<=9223372036854775807/\(∀x∈zs,-9223372036854775808<=x/\x<=9223372036854775807)/\VD W U (IS zs) v:=by
 obtain⟨a,len,cap,rfl⟩:=okWide_slice ht hval
 obtain⟨fuel,hf⟩:=hd
 rcases open_ints ht he hc hf with ⟨h1,_⟩|⟨a',len',cap',zs,h1,_,hl,hm,hz,_,hcell,hw⟩
 ·simp[Value.cells] at h1
  obtain⟨rfl,rfl,rfl⟩:=h1
  exact⟨[],by simp,by simp, .nil _ _⟩
 ·simp[Value.cells] at h1
  obtain⟨rfl,rfl,rfl⟩:=h1
  simp only[if_true] at hz
  have hm':cap<=9223372036854775807:=by unfold maxLen at hm;omega
  exact⟨zs.take len,by simp;omega,fun x hx=>wf_i64 (hw x (List.mem_of_mem_take hx)),VD.ints_mk hU hl hm hz fun i hi=>hcell i (by omega)⟩
def env0:Env:=⟨fun _=>none,fun _=>False,fun _=>none⟩
theorem own0 (b:Nat):¬OwnB env0 b:=by
 rintro(⟨id,ee,c,h,_⟩|⟨B,c,h,_⟩)<;>cases h
theorem UE_all (b:Nat):UE env0 b:=⟨fun h=>h,own0 b⟩
theorem HRel0 (w:World):HRel w env0 (Glt 1) [] where
 dead:=fun _ _=>rfl
 live:=fun id g ob h=>by simp[Hp.get] at h
 inj:=fun id id' ee ee' b c c' h=>by cases h
 lt:=fun id ee b c h=>by cases h
 nz:=fun id ee b c h=>by cases h
 kl:=fun b B c h=>by cases h
 ko:=fun b h=>rfl
 kk:=fun b B c h=>by cases h
theorem law_any {T:Tab} {f:FuncId} {as1:List AV} {vals:Array Value} (h:SatG P T f [] as1 [] (B true)) (hg:GOk T W (UE env0)) (hsz:as1.length=vals.size) (hv:∀i (hi:i<as1.length),VD W (UE env0) as1[i] (vals.getD i undef)):
  Calls P f vals W fun e W'=>e= .returned (.bool true)/\Below W.heap.size W W':=by
 have h:=h.2 W env0 vals (HRel0 W) (fun b hb=>hb.elim) hg hsz (fun i hi=> .dat _ _ (hv i hi))
 refine h.mono ?_
 rintro e W' ⟨v,e',rfl,_,hv,_,_,_,hf⟩
 cases hv with
 |dat _ _ hv=>
  cases hv with
  |lit _ _=>exact⟨rfl,hf.os,hf.tape,hf.output,hf.size,fun k hk=>hf.same k hk (own0 k)⟩
theorem laid_bytes {g fuel n:Nat} {nm:String} {zs:List Int} {cs:Array Value} {p:List MemPlace} {enc:TypeId×Value->Unit} {spare:Nat->Bool} {held:Bool} (hg:P.globalNamed nm=some g) (hU:∀b,U b) (ht:P.underlying t=some (.array n e)) (he:P.underlying e=some (.int .u8)) (hc:P.cellsOf e=1)
  (hv:W.var? P nm=some cs) (hd:DataW.trod enc P W 0 spare held fuel t cs.toList=some (.agg (zs.map fun z=> .lit (.int .u8 z)),p)) (hn:zs.length=n) (h0:0<n):VD W U (.ptI (zs.map fun z=> .lit (.int .u8 z))) (.pointer (some ⟨g,0,none⟩)):=by
 obtain⟨xs,m,_,ex,_,hl,hel⟩:=DataW.trod_array ht hd
 have cell:∀r,r<n->W.cell? ⟨g,r,none⟩=some (.int .u8 (zs.getD r 0)):=by
  intro r hr
  have hE:=hel r hr
  rw[hc,Nat.mul_one,List.getElem?_eq_getElem (by omega)] at hE
  obtain⟨z,e1,e2,_⟩:=DataW.trod_int he hE
  have e3:(xs.map (·.1))=zs.map fun n=> .lit (.int .u8 n):=(DataW.agg.inj (Prod.mk.inj ex).1).symm
  have e4:(xs.map (·.1))[r]?=(zs.map fun n=>(DataW.lit (.int .u8 n):DataW Unit))[r]?:=by rw[e3]
  rw[List.getElem?_map,List.getElem?_map,List.getElem?_eq_getElem (by omega:r<xs.length),List.getElem?_eq_getElem (by omega:r<zs.length),e2] at e4
  have hz:z=zs.getD r 0:=by
   simp only[Option.map_some,Option.some.injEq,DataW.lit.injEq,Lit.int.injEq,true_and] at e4
   rw[e4,List.getD,List.getElem?_eq_getElem (by omega:r<zs.length)];rfl
  rw[World.var?_cell hg hv r,<-hz]
  have:cs.toList[r]?=some (.int .u8 z):=by
   have h0:((cs.toList.drop r).take 1)[0]?=some (.int .u8 z):=by rw[e1];rfl
   simpa using h0
  simpa using this
 refine .ptI _ g 0 (fun i=> .int .u8 (zs.getD i 0)) (hU _) (cell_spot (cell 0 h0)).2 ?_ ?_ ?_
 ·intro j hj
  rw[Nat.zero_add]
  exact cell j (by simpa[hn] using hj)
 ·intro j hj
  simp[AV.one]
 ·intro j hj
  rw[List.length_map] at hj
  simp only[List.getElem_map]
  have:zs.getD j 0=zs[j]'(by omega):=by simp[show j<zs.length by omega]
  rw[this]
  exact .lit _ rfl
theorem laid_strs {g fuel:Nat} {nm:String} {ss:List ByteArray} {cs:Array Value} {p:List MemPlace} {enc:TypeId×Value->Unit} {spare:Nat->Bool} {held:Bool} (hg:P.globalNamed nm=some g) (hU:∀b,U b) (ht:P.underlying t=some (.slice e)) (he:P.underlying e=some .string) (hc:P.cellsOf e=1)
  (hv:W.var? P nm=some cs) (hd:DataW.trod enc P W 0 spare held fuel t cs.toList=some (.slice (ss.map fun z=> .lit (.string z.data.toList)) [],p)) (h0:0<ss.length):VD W U (.ptI [.sl (ss.map S) false]) (.pointer (some ⟨g,0,none⟩)):=by
 rcases open_strs ht he hc hd with ⟨_,hx⟩|⟨a,len,cap,m,Sx,hcs,_,hlc,hm,hmm,hx,hcell⟩
 ·simp at hx
 ·simp only[Prod.mk.injEq,DataW.slice.injEq] at hx
  obtain⟨⟨hx,hsp⟩,_⟩:=hx
  have hlen:ss.length=len:=by simpa using congrArg List.length hx
  have hlm:len<=m:=by rw[hmm];split<;>omega
  have hS:∀i (hi:i<ss.length),Sx i=ss[i]:=by
   intro i hi
   have h1:(ss.map fun z=>(DataW.lit (.string z.data.toList):DataW Unit))[i]?=((List.range len).map fun i=>(DataW.lit (.string (Sx i).data.toList):DataW Unit))[i]?:=by rw[hx]
   rw[List.getElem?_map,List.getElem?_map,List.getElem?_eq_getElem hi,List.getElem?_eq_getElem (by simpa[hlen] using hi)] at h1
   simp only[Option.map_some,Option.some.injEq,DataW.lit.injEq,Lit.string.injEq,List.getElem_range] at h1
   have h2:=Array.toList_inj.1 h1
   cases h3:ss[i] with|mk d1=>cases h4:Sx i with|mk d2=>rw[h3,h4] at h2;simp only at h2;rw[h2]
  have hv0:=World.var?_cell hg hv 0
  rw[Array.eq_one_of_toList hcs] at hv0
  have hv0:W.cell? ⟨g,0,none⟩=some (.slice (some a) len cap):=by simpa using hv0
  have ha:=cell_spot (hcell 0 (by omega)).1
  have ea:a=⟨a.block,a.off,none⟩:=ha.1
  refine .ptI _ g 0 (fun _=> .slice (some a) len cap) (hU _) (cell_spot hv0).2 ?_ (by intro j hj;simp at hj;subst hj;rfl) ?_
  ·intro j hj
   simp at hj;subst hj;exact hv0
  ·intro j hj
   simp at hj;subst hj
   have:=VD.sl (w:=W) (U:=U) (ss.map S) false a.block a.off cap 1 (fun i=> .string (Sx i)) (hU _) ha.2 (by simp[hlen,hlc]) hm (by simp) (by omega)
    (by intro i hi;simp[AV.cells,S]) (by
     intro j hj
     rw[List.length_map,hlen,Nat.mul_one] at hj
     have h2:=(hcell j (by omega)).1
     rw[ea,add_plain] at h2
     exact h2) (by
     intro i hi j hj
     simp only[List.getElem_map,S,AV.cells] at hj ⊢
     simp at hj;subst hj;rfl) (by
     intro i hi j hj
     simp only[List.getElem_map,S,AV.cells] at hj ⊢
     simp at hj;subst hj
     simp only[List.getElem_cons_zero,Nat.mul_one,Nat.add_zero]
     rw[hS i (by simpa using hi)]
     exact .lit _ rfl)
   rw[List.length_map,hlen] at this
   rw[<-ea] at this
   exact this
end
end Go.Sym
