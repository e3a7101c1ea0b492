/- Lemmas towards scriptBack_card: no conditions of their own beyond those that each one states. -/
import Derived.Test.YtokkbonoplbiaaaGreatDoorA8
import Derived.ChangeMaps5
set_option linter.all false
set_option linter.unusedSimpArgs false
set_option linter.unusedVariables false
set_option linter.deprecated false
namespace Go.Proofs.YtokkbonoplbiaaaGreatDoor
open Go Go.Sym
open Go.Scr
theorem revB_n0 {r:Rev} (h:decide (r.k<1)=true):revB r=false:=by
 unfold revB
 rw[decide_eq_false (by have:=of_decide_eq_true h;omega)]
 rfl
theorem revB_n1 {r:Rev} (h:decide (5<r.k)=true):revB r=false:=by
 unfold revB
 rw[decide_eq_false (by have:=of_decide_eq_true h;omega)]
 rfl
theorem revB_n2 {r:Rev} (h:r.flt.ok=false):revB r=false:=by
 unfold revB
 rw[h,Bool.false_and,Bool.and_false]
theorem revB_yes {r:Rev} (h0:decide (r.k<1)=false) (h1:decide (5<r.k)=false) (h2:r.flt.ok=true):revB r=(numB r.amt&&(decide (r.k<=3)||decide (r.amt=0))):=by
 unfold revB
 rw[h2,decide_eq_true (by have:=of_decide_eq_false h0;have:=of_decide_eq_false h1;omega),Bool.true_and,Bool.true_and]
theorem plain_lo (x:Acx) (hk:x.k<1):SatG Tryz.prog tab 37 [] [x.av] [] (B false):=by
 have k1:decide (x.k<1)=true:=decide_eq_true hk
 refine uFN Tryz.func37 Tryz.ntmps37 ?_;intro w e X hC
 refine uA ?_
 refine uD1 @k1 ?_;intro K hK
 refine uH ?_
 refine hK _ ?_;clear hK K
 refine uT ?_
 repeat refine uA ?_
 (refine awp_ret (ret1 uRT ?_);try rfl)
theorem plain_hi (x:Acx) (hk:14<x.k):SatG Tryz.prog tab 37 [] [x.av] [] (B false):=by
 have k1:decide (x.k<1)=false:=decide_eq_false (by omega)
 have k2:decide (14<x.k)=true:=decide_eq_true hk
 refine uFN Tryz.func37 Tryz.ntmps37 ?_;intro w e X hC
 refine uA ?_
 refine uD1 (uI @k1 @k2) ?_;intro K hK
 refine uH ?_
 refine hK _ ?_;clear hK K
 refine uT ?_
 repeat refine uA ?_
 (refine awp_ret (ret1 uRT ?_);try rfl)
theorem plain_sp (x:Acx) (hk:1<=x.k/\x.k<=14) (h1:x.mv.length<=1000000) (h2:x.gl.length<=1000000) (ho:¬x=only x) (h3:(only x).mv.length<=1000000) (h4:(only x).gl.length<=1000000):SatG Tryz.prog tab 37 [] [x.av] [] (B false):=by
 have k1:decide (x.k<1)=false:=decide_eq_false (by omega)
 have k2:decide (14<x.k)=false:=decide_eq_false (by omega)
 have g1:=only_sat x
 have g2:=rsame_sat x (only x) h1 h3 h2 h4
 rw[decide_eq_false ho] at g2
 refine uFN Tryz.func37 Tryz.ntmps37 ?_;intro w e X hC
 refine uA ?_
 refine uD1 (uI @k1 @k2) ?_;intro K hK
 refine uH ?_
 refine callP uTS (g1) uTS uTS uTS ?_;refine uS ?_
 refine uH ?_
 refine callF uTS (g2) uTS uTS uTS ?_;refine uS ?_
 refine uH ?_
 refine hK _ ?_;clear hK K
 refine uT ?_
 repeat refine uA ?_
 (refine awp_ret (ret1 uRT ?_);try rfl)
theorem plain_1 (x:Acx) (hk:1<=x.k/\x.k<=14) (h1:x.mv.length<=1000000) (h2:x.gl.length<=1000000) (ho:x=only x) (h3:(only x).mv.length<=1000000) (h4:(only x).gl.length<=1000000) (hq:x.k=1):SatG Tryz.prog tab 37 [] [x.av] [] (B (x.mv.all (flawB 1 2)&&x.gl.all (flawB 3 6))):=by
 have k1:decide (x.k<1)=false:=decide_eq_false (by omega)
 have k2:decide (14<x.k)=false:=decide_eq_false (by omega)
 have g1:=only_sat x
 have g2:=rsame_sat x (only x) h1 h3 h2 h4
 have e1:decide (x.k=1)=true:=decide_eq_true (by omega)
 have e3:decide (x.k=3)=false:=decide_eq_false (by omega)
 have e5:decide (x.k=5)=false:=decide_eq_false (by omega)
 have e2:decide (x.k=2)=false:=decide_eq_false (by omega)
 have e10:decide (x.k=10)=false:=decide_eq_false (by omega)
 have e8:decide (x.k=8)=false:=decide_eq_false (by omega)
 have e9:decide (x.k=9)=false:=decide_eq_false (by omega)
 have e13:decide (x.k=13)=false:=decide_eq_false (by omega)
 rw[decide_eq_true ho] at g2
 refine uFN Tryz.func37 Tryz.ntmps37 ?_;intro w e X hC
 refine uA ?_
 refine uD1 (uI @k1 @k2) ?_;intro K hK
 refine uH ?_
 refine callP uTS (g1) uTS uTS uTS ?_;refine uS ?_
 refine uH ?_
 refine callF uTS (g2) uTS uTS uTS ?_;refine uS ?_
 refine uH ?_
 refine hK _ ?_;clear hK K
 refine uF ?_
 repeat first|refine uC ?_|refine uA1 (uI @e1 (uI @e3 (uI @e5 (uI @e2 (uI @e10 (uI @e8 (uI @e9 @e13))))))) ?_
 clear g1 g2
 have g0:=rfaults_sat x.mv 1 2 h1
 have g1:=rfaults_sat x.gl 3 6 h2
 cases e0:x.mv.all (flawB 1 2) with
 |false=>
  rw[e0] at g0
  refine uR ?_;intro K hK
  refine uH ?_
  refine callF uTS (g0) uTS uTS uTS ?_;refine uS ?_
  try simp only[go_sem,Nat.reduceAdd,Nat.reduceSub,Nat.reduceMul,Nat.reduceLT,Nat.reduceEqDiff,Nat.reduceBEq,Nat.reduceLeDiff,Int.reduceToNat,↓reduceIte,Int.reduceEq,Int.reduceLT,Int.reduceLE,Int.reduceAdd,Int.reduceSub,Int.reduceNeg,reduceCtorEq]
  refine uH ?_
  refine hK _ ?_;clear hK K
  (refine awp_ret (ret1 uRT ?_);try rfl)
 |true=>
  rw[e0] at g0
  cases e1:x.gl.all (flawB 3 6) with
  |false=>
   rw[e1] at g1
   refine uR ?_;intro K hK
   refine uH ?_
   refine callF uTS (g0) uTS uTS uTS ?_;refine uS ?_
   try simp only[go_sem,Nat.reduceAdd,Nat.reduceSub,Nat.reduceMul,Nat.reduceLT,Nat.reduceEqDiff,Nat.reduceBEq,Nat.reduceLeDiff,Int.reduceToNat,↓reduceIte,Int.reduceEq,Int.reduceLT,Int.reduceLE,Int.reduceAdd,Int.reduceSub,Int.reduceNeg,reduceCtorEq]
   refine uH ?_
   refine callF uTS (g1) uTS uTS uTS ?_;refine uS ?_
   try simp only[go_sem,Nat.reduceAdd,Nat.reduceSub,Nat.reduceMul,Nat.reduceLT,Nat.reduceEqDiff,Nat.reduceBEq,Nat.reduceLeDiff,Int.reduceToNat,↓reduceIte,Int.reduceEq,Int.reduceLT,Int.reduceLE,Int.reduceAdd,Int.reduceSub,Int.reduceNeg,reduceCtorEq]
   refine uH ?_
   refine hK _ ?_;clear hK K
   (refine awp_ret (ret1 uRT ?_);try rfl)
  |true=>
   rw[e1] at g1
   refine uR ?_;intro K hK
   refine uH ?_
   refine callF uTS (g0) uTS uTS uTS ?_;refine uS ?_
   try simp only[go_sem,Nat.reduceAdd,Nat.reduceSub,Nat.reduceMul,Nat.reduceLT,Nat.reduceEqDiff,Nat.reduceBEq,Nat.reduceLeDiff,Int.reduceToNat,↓reduceIte,Int.reduceEq,Int.reduceLT,Int.reduceLE,Int.reduceAdd,Int.reduceSub,Int.reduceNeg,reduceCtorEq]
   refine uH ?_
   refine callF uTS (g1) uTS uTS uTS ?_;refine uS ?_
   try simp only[go_sem,Nat.reduceAdd,Nat.reduceSub,Nat.reduceMul,Nat.reduceLT,Nat.reduceEqDiff,Nat.reduceBEq,Nat.reduceLeDiff,Int.reduceToNat,↓reduceIte,Int.reduceEq,Int.reduceLT,Int.reduceLE,Int.reduceAdd,Int.reduceSub,Int.reduceNeg,reduceCtorEq]
   refine uH ?_
   refine hK _ ?_;clear hK K
   (refine awp_ret (ret1 uRT ?_);try rfl)
theorem plain_3 (x:Acx) (hk:1<=x.k/\x.k<=14) (h1:x.mv.length<=1000000) (h2:x.gl.length<=1000000) (ho:x=only x) (h3:(only x).mv.length<=1000000) (h4:(only x).gl.length<=1000000) (hq:x.k=3) (h5:x.txt.length<=1000000):SatG Tryz.prog tab 37 [] [x.av] [] (B (txtB x.txt)):=by
 have k1:decide (x.k<1)=false:=decide_eq_false (by omega)
 have k2:decide (14<x.k)=false:=decide_eq_false (by omega)
 have g1:=only_sat x
 have g2:=rsame_sat x (only x) h1 h3 h2 h4
 have e1:decide (x.k=1)=false:=decide_eq_false (by omega)
 have e3:decide (x.k=3)=true:=decide_eq_true (by omega)
 have e5:decide (x.k=5)=false:=decide_eq_false (by omega)
 have e2:decide (x.k=2)=false:=decide_eq_false (by omega)
 have e10:decide (x.k=10)=false:=decide_eq_false (by omega)
 have e8:decide (x.k=8)=false:=decide_eq_false (by omega)
 have e9:decide (x.k=9)=false:=decide_eq_false (by omega)
 have e13:decide (x.k=13)=false:=decide_eq_false (by omega)
 rw[decide_eq_true ho] at g2
 refine uFN Tryz.func37 Tryz.ntmps37 ?_;intro w e X hC
 refine uA ?_
 refine uD1 (uI @k1 @k2) ?_;intro K hK
 refine uH ?_
 refine callP uTS (g1) uTS uTS uTS ?_;refine uS ?_
 refine uH ?_
 refine callF uTS (g2) uTS uTS uTS ?_;refine uS ?_
 refine uH ?_
 refine hK _ ?_;clear hK K
 refine uF ?_
 repeat first|refine uC ?_|refine uA1 (uI @e1 (uI @e3 (uI @e5 (uI @e2 (uI @e10 (uI @e8 (uI @e9 @e13))))))) ?_
 clear g1 g2
 have g0:=rtext_sat x.txt h5
 refine uR ?_;intro K hK
 refine uH ?_
 refine callF uTS (g0) uTS uTS uTS ?_;refine uS ?_
 refine uH ?_
 refine hK _ ?_;clear hK K
 (refine awp_ret (ret1 uRT ?_);try rfl)
theorem plain_13 (x:Acx) (hk:1<=x.k/\x.k<=14) (h1:x.mv.length<=1000000) (h2:x.gl.length<=1000000) (ho:x=only x) (h3:(only x).mv.length<=1000000) (h4:(only x).gl.length<=1000000) (hq:x.k=13) (h5:x.flt.car.length<=1000000) (h6:x.flt.suf.length<=1000000):SatG Tryz.prog tab 37 [] [x.av] [] (B (x.flt.ok)):=by
 have k1:decide (x.k<1)=false:=decide_eq_false (by omega)
 have k2:decide (14<x.k)=false:=decide_eq_false (by omega)
 have g1:=only_sat x
 have g2:=rsame_sat x (only x) h1 h3 h2 h4
 have e1:decide (x.k=1)=false:=decide_eq_false (by omega)
 have e3:decide (x.k=3)=false:=decide_eq_false (by omega)
 have e5:decide (x.k=5)=false:=decide_eq_false (by omega)
 have e2:decide (x.k=2)=false:=decide_eq_false (by omega)
 have e10:decide (x.k=10)=false:=decide_eq_false (by omega)
 have e8:decide (x.k=8)=false:=decide_eq_false (by omega)
 have e9:decide (x.k=9)=false:=decide_eq_false (by omega)
 have e13:decide (x.k=13)=true:=decide_eq_true (by omega)
 rw[decide_eq_true ho] at g2
 refine uFN Tryz.func37 Tryz.ntmps37 ?_;intro w e X hC
 refine uA ?_
 refine uD1 (uI @k1 @k2) ?_;intro K hK
 refine uH ?_
 refine callP uTS (g1) uTS uTS uTS ?_;refine uS ?_
 refine uH ?_
 refine callF uTS (g2) uTS uTS uTS ?_;refine uS ?_
 refine uH ?_
 refine hK _ ?_;clear hK K
 refine uF ?_
 repeat first|refine uC ?_|refine uA1 (uI @e1 (uI @e3 (uI @e5 (uI @e2 (uI @e10 (uI @e8 (uI @e9 @e13))))))) ?_
 clear g1 g2
 have g0:=rfvalid_sat x.flt h5 h6
 refine uR ?_;intro K hK
 refine uH ?_
 refine callF uTS (g0) uTS uTS uTS ?_;refine uS ?_
 refine uH ?_
 refine hK _ ?_;clear hK K
 (refine awp_ret (ret1 uRT ?_);try rfl)
theorem plain_0 (x:Acx) (hk:1<=x.k/\x.k<=14) (h1:x.mv.length<=1000000) (h2:x.gl.length<=1000000) (ho:x=only x) (h3:(only x).mv.length<=1000000) (h4:(only x).gl.length<=1000000) (hq:¬x.k=1/\¬x.k=3/\¬x.k=5/\¬x.k=2/\¬x.k=10/\¬x.k=8/\¬x.k=9/\¬x.k=13):SatG Tryz.prog tab 37 [] [x.av] [] (B (numsB x)):=by
 have k1:decide (x.k<1)=false:=decide_eq_false (by omega)
 have k2:decide (14<x.k)=false:=decide_eq_false (by omega)
 have g1:=only_sat x
 have g2:=rsame_sat x (only x) h1 h3 h2 h4
 have e1:decide (x.k=1)=false:=decide_eq_false (by omega)
 have e3:decide (x.k=3)=false:=decide_eq_false (by omega)
 have e5:decide (x.k=5)=false:=decide_eq_false (by omega)
 have e2:decide (x.k=2)=false:=decide_eq_false (by omega)
 have e10:decide (x.k=10)=false:=decide_eq_false (by omega)
 have e8:decide (x.k=8)=false:=decide_eq_false (by omega)
 have e9:decide (x.k=9)=false:=decide_eq_false (by omega)
 have e13:decide (x.k=13)=false:=decide_eq_false (by omega)
 rw[decide_eq_true ho] at g2
 refine uFN Tryz.func37 Tryz.ntmps37 ?_;intro w e X hC
 refine uA ?_
 refine uD1 (uI @k1 @k2) ?_;intro K hK
 refine uH ?_
 refine callP uTS (g1) uTS uTS uTS ?_;refine uS ?_
 refine uH ?_
 refine callF uTS (g2) uTS uTS uTS ?_;refine uS ?_
 refine uH ?_
 refine hK _ ?_;clear hK K
 refine uF ?_
 repeat first|refine uC ?_|refine uA1 (uI @e1 (uI @e3 (uI @e5 (uI @e2 (uI @e10 (uI @e8 (uI @e9 @e13))))))) ?_
 clear g1 g2
 have g0:SatG Tryz.prog tab 70 [] [I x.node] [] (B (numB x.node)):=num_sat _
 have g1:SatG Tryz.prog tab 70 [] [I x.img] [] (B (numB x.img)):=num_sat _
 have g2:SatG Tryz.prog tab 70 [] [I x.dev] [] (B (numB x.dev)):=num_sat _
 have g3:SatG Tryz.prog tab 70 [] [I x.con] [] (B (numB x.con)):=num_sat _
 rw[show numsB x=(numB x.node&&(numB x.img&&(numB x.dev&&numB x.con))) from rfl]
 cases e0:numB x.node with
 |false=>
  rw[e0] at g0
  refine uR ?_;intro K hK
  refine uH ?_
  refine callF uTS (g0) uTS uTS uTS ?_;refine uS ?_
  try simp only[go_sem,Nat.reduceAdd,Nat.reduceSub,Nat.reduceMul,Nat.reduceLT,Nat.reduceEqDiff,Nat.reduceBEq,Nat.reduceLeDiff,Int.reduceToNat,↓reduceIte,Int.reduceEq,Int.reduceLT,Int.reduceLE,Int.reduceAdd,Int.reduceSub,Int.reduceNeg,reduceCtorEq]
  refine uH ?_
  refine hK _ ?_;clear hK K
  (refine awp_ret (ret1 uRT ?_);try rfl)
 |true=>
  rw[e0] at g0
  cases e1:numB x.img with
  |false=>
   rw[e1] at g1
   refine uR ?_;intro K hK
   refine uH ?_
   refine callF uTS (g0) uTS uTS uTS ?_;refine uS ?_
   try simp only[go_sem,Nat.reduceAdd,Nat.reduceSub,Nat.reduceMul,Nat.reduceLT,Nat.reduceEqDiff,Nat.reduceBEq,Nat.reduceLeDiff,Int.reduceToNat,↓reduceIte,Int.reduceEq,Int.reduceLT,Int.reduceLE,Int.reduceAdd,Int.reduceSub,Int.reduceNeg,reduceCtorEq]
   refine uH ?_
   refine callF uTS (g1) uTS uTS uTS ?_;refine uS ?_
   try simp only[go_sem,Nat.reduceAdd,Nat.reduceSub,Nat.reduceMul,Nat.reduceLT,Nat.reduceEqDiff,Nat.reduceBEq,Nat.reduceLeDiff,Int.reduceToNat,↓reduceIte,Int.reduceEq,Int.reduceLT,Int.reduceLE,Int.reduceAdd,Int.reduceSub,Int.reduceNeg,reduceCtorEq]
   refine uH ?_
   refine hK _ ?_;clear hK K
   (refine awp_ret (ret1 uRT ?_);try rfl)
  |true=>
   rw[e1] at g1
   cases e2:numB x.dev with
   |false=>
    rw[e2] at g2
    refine uR ?_;intro K hK
    refine uH ?_
    refine callF uTS (g0) uTS uTS uTS ?_;refine uS ?_
    try simp only[go_sem,Nat.reduceAdd,Nat.reduceSub,Nat.reduceMul,Nat.reduceLT,Nat.reduceEqDiff,Nat.reduceBEq,Nat.reduceLeDiff,Int.reduceToNat,↓reduceIte,Int.reduceEq,Int.reduceLT,Int.reduceLE,Int.reduceAdd,Int.reduceSub,Int.reduceNeg,reduceCtorEq]
    refine uH ?_
    refine callF uTS (g1) uTS uTS uTS ?_;refine uS ?_
    try simp only[go_sem,Nat.reduceAdd,Nat.reduceSub,Nat.reduceMul,Nat.reduceLT,Nat.reduceEqDiff,Nat.reduceBEq,Nat.reduceLeDiff,Int.reduceToNat,↓reduceIte,Int.reduceEq,Int.reduceLT,Int.reduceLE,Int.reduceAdd,Int.reduceSub,Int.reduceNeg,reduceCtorEq]
    refine uH ?_
    refine callF uTS (g2) uTS uTS uTS ?_;refine uS ?_
    try simp only[go_sem,Nat.reduceAdd,Nat.reduceSub,Nat.reduceMul,Nat.reduceLT,Nat.reduceEqDiff,Nat.reduceBEq,Nat.reduceLeDiff,Int.reduceToNat,↓reduceIte,Int.reduceEq,Int.reduceLT,Int.reduceLE,Int.reduceAdd,Int.reduceSub,Int.reduceNeg,reduceCtorEq]
    refine uH ?_
    refine hK _ ?_;clear hK K
    (refine awp_ret (ret1 uRT ?_);try rfl)
   |true=>
    rw[e2] at g2
    cases e3:numB x.con with
    |false=>
     rw[e3] at g3
     refine uR ?_;intro K hK
     refine uH ?_
     refine callF uTS (g0) uTS uTS uTS ?_;refine uS ?_
     try simp only[go_sem,Nat.reduceAdd,Nat.reduceSub,Nat.reduceMul,Nat.reduceLT,Nat.reduceEqDiff,Nat.reduceBEq,Nat.reduceLeDiff,Int.reduceToNat,↓reduceIte,Int.reduceEq,Int.reduceLT,Int.reduceLE,Int.reduceAdd,Int.reduceSub,Int.reduceNeg,reduceCtorEq]
     refine uH ?_
     refine callF uTS (g1) uTS uTS uTS ?_;refine uS ?_
     try simp only[go_sem,Nat.reduceAdd,Nat.reduceSub,Nat.reduceMul,Nat.reduceLT,Nat.reduceEqDiff,Nat.reduceBEq,Nat.reduceLeDiff,Int.reduceToNat,↓reduceIte,Int.reduceEq,Int.reduceLT,Int.reduceLE,Int.reduceAdd,Int.reduceSub,Int.reduceNeg,reduceCtorEq]
     refine uH ?_
     refine callF uTS (g2) uTS uTS uTS ?_;refine uS ?_
     try simp only[go_sem,Nat.reduceAdd,Nat.reduceSub,Nat.reduceMul,Nat.reduceLT,Nat.reduceEqDiff,Nat.reduceBEq,Nat.reduceLeDiff,Int.reduceToNat,↓reduceIte,Int.reduceEq,Int.reduceLT,Int.reduceLE,Int.reduceAdd,Int.reduceSub,Int.reduceNeg,reduceCtorEq]
     refine uH ?_
     refine callF uTS (g3) uTS uTS uTS ?_;refine uS ?_
     try simp only[go_sem,Nat.reduceAdd,Nat.reduceSub,Nat.reduceMul,Nat.reduceLT,Nat.reduceEqDiff,Nat.reduceBEq,Nat.reduceLeDiff,Int.reduceToNat,↓reduceIte,Int.reduceEq,Int.reduceLT,Int.reduceLE,Int.reduceAdd,Int.reduceSub,Int.reduceNeg,reduceCtorEq]
     refine uH ?_
     refine hK _ ?_;clear hK K
     (refine awp_ret (ret1 uRT ?_);try rfl)
    |true=>
     rw[e3] at g3
     refine uR ?_;intro K hK
     refine uH ?_
     refine callF uTS (g0) uTS uTS uTS ?_;refine uS ?_
     try simp only[go_sem,Nat.reduceAdd,Nat.reduceSub,Nat.reduceMul,Nat.reduceLT,Nat.reduceEqDiff,Nat.reduceBEq,Nat.reduceLeDiff,Int.reduceToNat,↓reduceIte,Int.reduceEq,Int.reduceLT,Int.reduceLE,Int.reduceAdd,Int.reduceSub,Int.reduceNeg,reduceCtorEq]
     refine uH ?_
     refine callF uTS (g1) uTS uTS uTS ?_;refine uS ?_
     try simp only[go_sem,Nat.reduceAdd,Nat.reduceSub,Nat.reduceMul,Nat.reduceLT,Nat.reduceEqDiff,Nat.reduceBEq,Nat.reduceLeDiff,Int.reduceToNat,↓reduceIte,Int.reduceEq,Int.reduceLT,Int.reduceLE,Int.reduceAdd,Int.reduceSub,Int.reduceNeg,reduceCtorEq]
     refine uH ?_
     refine callF uTS (g2) uTS uTS uTS ?_;refine uS ?_
     try simp only[go_sem,Nat.reduceAdd,Nat.reduceSub,Nat.reduceMul,Nat.reduceLT,Nat.reduceEqDiff,Nat.reduceBEq,Nat.reduceLeDiff,Int.reduceToNat,↓reduceIte,Int.reduceEq,Int.reduceLT,Int.reduceLE,Int.reduceAdd,Int.reduceSub,Int.reduceNeg,reduceCtorEq]
     refine uH ?_
     refine callF uTS (g3) uTS uTS uTS ?_;refine uS ?_
     try simp only[go_sem,Nat.reduceAdd,Nat.reduceSub,Nat.reduceMul,Nat.reduceLT,Nat.reduceEqDiff,Nat.reduceBEq,Nat.reduceLeDiff,Int.reduceToNat,↓reduceIte,Int.reduceEq,Int.reduceLT,Int.reduceLE,Int.reduceAdd,Int.reduceSub,Int.reduceNeg,reduceCtorEq]
     refine uH ?_
     refine hK _ ?_;clear hK K
     (refine awp_ret (ret1 uRT ?_);try rfl)
theorem plain_2 (x:Acx) (hk:1<=x.k/\x.k<=14) (h1:x.mv.length<=1000000) (h2:x.gl.length<=1000000) (ho:x=only x) (h3:(only x).mv.length<=1000000) (h4:(only x).gl.length<=1000000) (hq:x.k=2):SatG Tryz.prog tab 37 [] [x.av] [] (B (x.plt.ok&&numsB x)):=by
 have k1:decide (x.k<1)=false:=decide_eq_false (by omega)
 have k2:decide (14<x.k)=false:=decide_eq_false (by omega)
 have g1:=only_sat x
 have g2:=rsame_sat x (only x) h1 h3 h2 h4
 have e1:decide (x.k=1)=false:=decide_eq_false (by omega)
 have e3:decide (x.k=3)=false:=decide_eq_false (by omega)
 have e5:decide (x.k=5)=false:=decide_eq_false (by omega)
 have e2:decide (x.k=2)=true:=decide_eq_true (by omega)
 have e10:decide (x.k=10)=false:=decide_eq_false (by omega)
 have e8:decide (x.k=8)=false:=decide_eq_false (by omega)
 have e9:decide (x.k=9)=false:=decide_eq_false (by omega)
 have e13:decide (x.k=13)=false:=decide_eq_false (by omega)
 rw[decide_eq_true ho] at g2
 refine uFN Tryz.func37 Tryz.ntmps37 ?_;intro w e X hC
 refine uA ?_
 refine uD1 (uI @k1 @k2) ?_;intro K hK
 refine uH ?_
 refine callP uTS (g1) uTS uTS uTS ?_;refine uS ?_
 refine uH ?_
 refine callF uTS (g2) uTS uTS uTS ?_;refine uS ?_
 refine uH ?_
 refine hK _ ?_;clear hK K
 refine uF ?_
 repeat first|refine uC ?_|refine uA1 (uI @e1 (uI @e3 (uI @e5 (uI @e2 (uI @e10 (uI @e8 (uI @e9 @e13))))))) ?_
 clear g1 g2
 have gp:=rvalid_sat x.plt
 refine uR ?_;intro K hK
 refine uH ?_
 refine callF uTS (gp) uTS uTS uTS ?_;refine uS ?_
 refine uH ?_
 refine hK _ ?_;clear hK K
 cases ep:x.plt.ok with
 |false=>
  refine uT ?_
  repeat refine uA ?_
  (refine awp_ret (ret1 uRT ?_);try rfl)
 |true=>
  refine uF ?_
  have g0:SatG Tryz.prog tab 70 [] [I x.node] [] (B (numB x.node)):=num_sat _
  have g1:SatG Tryz.prog tab 70 [] [I x.img] [] (B (numB x.img)):=num_sat _
  have g2:SatG Tryz.prog tab 70 [] [I x.dev] [] (B (numB x.dev)):=num_sat _
  have g3:SatG Tryz.prog tab 70 [] [I x.con] [] (B (numB x.con)):=num_sat _
  rw[show numsB x=(numB x.node&&(numB x.img&&(numB x.dev&&numB x.con))) from rfl]
  cases e0:numB x.node with
  |false=>
   rw[e0] at g0
   refine uR ?_;intro K hK
   refine uH ?_
   refine callF uTS (g0) uTS uTS uTS ?_;refine uS ?_
   try simp only[go_sem,Nat.reduceAdd,Nat.reduceSub,Nat.reduceMul,Nat.reduceLT,Nat.reduceEqDiff,Nat.reduceBEq,Nat.reduceLeDiff,Int.reduceToNat,↓reduceIte,Int.reduceEq,Int.reduceLT,Int.reduceLE,Int.reduceAdd,Int.reduceSub,Int.reduceNeg,reduceCtorEq]
   refine uH ?_
   refine hK _ ?_;clear hK K
   (refine awp_ret (ret1 uRT ?_);try rfl)
  |true=>
   rw[e0] at g0
   cases e1:numB x.img with
   |false=>
    rw[e1] at g1
    refine uR ?_;intro K hK
    refine uH ?_
    refine callF uTS (g0) uTS uTS uTS ?_;refine uS ?_
    try simp only[go_sem,Nat.reduceAdd,Nat.reduceSub,Nat.reduceMul,Nat.reduceLT,Nat.reduceEqDiff,Nat.reduceBEq,Nat.reduceLeDiff,Int.reduceToNat,↓reduceIte,Int.reduceEq,Int.reduceLT,Int.reduceLE,Int.reduceAdd,Int.reduceSub,Int.reduceNeg,reduceCtorEq]
    refine uH ?_
    refine callF uTS (g1) uTS uTS uTS ?_;refine uS ?_
    try simp only[go_sem,Nat.reduceAdd,Nat.reduceSub,Nat.reduceMul,Nat.reduceLT,Nat.reduceEqDiff,Nat.reduceBEq,Nat.reduceLeDiff,Int.reduceToNat,↓reduceIte,Int.reduceEq,Int.reduceLT,Int.reduceLE,Int.reduceAdd,Int.reduceSub,Int.reduceNeg,reduceCtorEq]
    refine uH ?_
    refine hK _ ?_;clear hK K
    (refine awp_ret (ret1 uRT ?_);try rfl)
   |true=>
    rw[e1] at g1
    cases e2:numB x.dev with
    |false=>
     rw[e2] at g2
     refine uR ?_;intro K hK
     refine uH ?_
     refine callF uTS (g0) uTS uTS uTS ?_;refine uS ?_
     try simp only[go_sem,Nat.reduceAdd,Nat.reduceSub,Nat.reduceMul,Nat.reduceLT,Nat.reduceEqDiff,Nat.reduceBEq,Nat.reduceLeDiff,Int.reduceToNat,↓reduceIte,Int.reduceEq,Int.reduceLT,Int.reduceLE,Int.reduceAdd,Int.reduceSub,Int.reduceNeg,reduceCtorEq]
     refine uH ?_
     refine callF uTS (g1) uTS uTS uTS ?_;refine uS ?_
     try simp only[go_sem,Nat.reduceAdd,Nat.reduceSub,Nat.reduceMul,Nat.reduceLT,Nat.reduceEqDiff,Nat.reduceBEq,Nat.reduceLeDiff,Int.reduceToNat,↓reduceIte,Int.reduceEq,Int.reduceLT,Int.reduceLE,Int.reduceAdd,Int.reduceSub,Int.reduceNeg,reduceCtorEq]
     refine uH ?_
     refine callF uTS (g2) uTS uTS uTS ?_;refine uS ?_
     try simp only[go_sem,Nat.reduceAdd,Nat.reduceSub,Nat.reduceMul,Nat.reduceLT,Nat.reduceEqDiff,Nat.reduceBEq,Nat.reduceLeDiff,Int.reduceToNat,↓reduceIte,Int.reduceEq,Int.reduceLT,Int.reduceLE,Int.reduceAdd,Int.reduceSub,Int.reduceNeg,reduceCtorEq]
     refine uH ?_
     refine hK _ ?_;clear hK K
     (refine awp_ret (ret1 uRT ?_);try rfl)
    |true=>
     rw[e2] at g2
     cases e3:numB x.con with
     |false=>
      rw[e3] at g3
      refine uR ?_;intro K hK
      refine uH ?_
      refine callF uTS (g0) uTS uTS uTS ?_;refine uS ?_
      try simp only[go_sem,Nat.reduceAdd,Nat.reduceSub,Nat.reduceMul,Nat.reduceLT,Nat.reduceEqDiff,Nat.reduceBEq,Nat.reduceLeDiff,Int.reduceToNat,↓reduceIte,Int.reduceEq,Int.reduceLT,Int.reduceLE,Int.reduceAdd,Int.reduceSub,Int.reduceNeg,reduceCtorEq]
      refine uH ?_
      refine callF uTS (g1) uTS uTS uTS ?_;refine uS ?_
      try simp only[go_sem,Nat.reduceAdd,Nat.reduceSub,Nat.reduceMul,Nat.reduceLT,Nat.reduceEqDiff,Nat.reduceBEq,Nat.reduceLeDiff,Int.reduceToNat,↓reduceIte,Int.reduceEq,Int.reduceLT,Int.reduceLE,Int.reduceAdd,Int.reduceSub,Int.reduceNeg,reduceCtorEq]
      refine uH ?_
      refine callF uTS (g2) uTS uTS uTS ?_;refine uS ?_
      try simp only[go_sem,Nat.reduceAdd,Nat.reduceSub,Nat.reduceMul,Nat.reduceLT,Nat.reduceEqDiff,Nat.reduceBEq,Nat.reduceLeDiff,Int.reduceToNat,↓reduceIte,Int.reduceEq,Int.reduceLT,Int.reduceLE,Int.reduceAdd,Int.reduceSub,Int.reduceNeg,reduceCtorEq]
      refine uH ?_
      refine callF uTS (g3) uTS uTS uTS ?_;refine uS ?_
      try simp only[go_sem,Nat.reduceAdd,Nat.reduceSub,Nat.reduceMul,Nat.reduceLT,Nat.reduceEqDiff,Nat.reduceBEq,Nat.reduceLeDiff,Int.reduceToNat,↓reduceIte,Int.reduceEq,Int.reduceLT,Int.reduceLE,Int.reduceAdd,Int.reduceSub,Int.reduceNeg,reduceCtorEq]
      refine uH ?_
      refine hK _ ?_;clear hK K
      (refine awp_ret (ret1 uRT ?_);try rfl)
     |true=>
      rw[e3] at g3
      refine uR ?_;intro K hK
      refine uH ?_
      refine callF uTS (g0) uTS uTS uTS ?_;refine uS ?_
      try simp only[go_sem,Nat.reduceAdd,Nat.reduceSub,Nat.reduceMul,Nat.reduceLT,Nat.reduceEqDiff,Nat.reduceBEq,Nat.reduceLeDiff,Int.reduceToNat,↓reduceIte,Int.reduceEq,Int.reduceLT,Int.reduceLE,Int.reduceAdd,Int.reduceSub,Int.reduceNeg,reduceCtorEq]
      refine uH ?_
      refine callF uTS (g1) uTS uTS uTS ?_;refine uS ?_
      try simp only[go_sem,Nat.reduceAdd,Nat.reduceSub,Nat.reduceMul,Nat.reduceLT,Nat.reduceEqDiff,Nat.reduceBEq,Nat.reduceLeDiff,Int.reduceToNat,↓reduceIte,Int.reduceEq,Int.reduceLT,Int.reduceLE,Int.reduceAdd,Int.reduceSub,Int.reduceNeg,reduceCtorEq]
      refine uH ?_
      refine callF uTS (g2) uTS uTS uTS ?_;refine uS ?_
      try simp only[go_sem,Nat.reduceAdd,Nat.reduceSub,Nat.reduceMul,Nat.reduceLT,Nat.reduceEqDiff,Nat.reduceBEq,Nat.reduceLeDiff,Int.reduceToNat,↓reduceIte,Int.reduceEq,Int.reduceLT,Int.reduceLE,Int.reduceAdd,Int.reduceSub,Int.reduceNeg,reduceCtorEq]
      refine uH ?_
      refine callF uTS (g3) uTS uTS uTS ?_;refine uS ?_
      try simp only[go_sem,Nat.reduceAdd,Nat.reduceSub,Nat.reduceMul,Nat.reduceLT,Nat.reduceEqDiff,Nat.reduceBEq,Nat.reduceLeDiff,Int.reduceToNat,↓reduceIte,Int.reduceEq,Int.reduceLT,Int.reduceLE,Int.reduceAdd,Int.reduceSub,Int.reduceNeg,reduceCtorEq]
      refine uH ?_
      refine hK _ ?_;clear hK K
      (refine awp_ret (ret1 uRT ?_);try rfl)
theorem plain_10 (x:Acx) (hk:1<=x.k/\x.k<=14) (h1:x.mv.length<=1000000) (h2:x.gl.length<=1000000) (ho:x=only x) (h3:(only x).mv.length<=1000000) (h4:(only x).gl.length<=1000000) (hq:x.k=10):SatG Tryz.prog tab 37 [] [x.av] [] (B (x.plt.ok&&numsB x)):=by
 have k1:decide (x.k<1)=false:=decide_eq_false (by omega)
 have k2:decide (14<x.k)=false:=decide_eq_false (by omega)
 have g1:=only_sat x
 have g2:=rsame_sat x (only x) h1 h3 h2 h4
 have e1:decide (x.k=1)=false:=decide_eq_false (by omega)
 have e3:decide (x.k=3)=false:=decide_eq_false (by omega)
 have e5:decide (x.k=5)=false:=decide_eq_false (by omega)
 have e2:decide (x.k=2)=false:=decide_eq_false (by omega)
 have e10:decide (x.k=10)=true:=decide_eq_true (by omega)
 have e8:decide (x.k=8)=false:=decide_eq_false (by omega)
 have e9:decide (x.k=9)=false:=decide_eq_false (by omega)
 have e13:decide (x.k=13)=false:=decide_eq_false (by omega)
 rw[decide_eq_true ho] at g2
 refine uFN Tryz.func37 Tryz.ntmps37 ?_;intro w e X hC
 refine uA ?_
 refine uD1 (uI @k1 @k2) ?_;intro K hK
 refine uH ?_
 refine callP uTS (g1) uTS uTS uTS ?_;refine uS ?_
 refine uH ?_
 refine callF uTS (g2) uTS uTS uTS ?_;refine uS ?_
 refine uH ?_
 refine hK _ ?_;clear hK K
 refine uF ?_
 repeat first|refine uC ?_|refine uA1 (uI @e1 (uI @e3 (uI @e5 (uI @e2 (uI @e10 (uI @e8 (uI @e9 @e13))))))) ?_
 clear g1 g2
 have gp:=rvalid_sat x.plt
 refine uR ?_;intro K hK
 refine uH ?_
 refine callF uTS (gp) uTS uTS uTS ?_;refine uS ?_
 refine uH ?_
 refine hK _ ?_;clear hK K
 cases ep:x.plt.ok with
 |false=>
  refine uT ?_
  repeat refine uA ?_
  (refine awp_ret (ret1 uRT ?_);try rfl)
 |true=>
  refine uF ?_
  have g0:SatG Tryz.prog tab 70 [] [I x.node] [] (B (numB x.node)):=num_sat _
  have g1:SatG Tryz.prog tab 70 [] [I x.img] [] (B (numB x.img)):=num_sat _
  have g2:SatG Tryz.prog tab 70 [] [I x.dev] [] (B (numB x.dev)):=num_sat _
  have g3:SatG Tryz.prog tab 70 [] [I x.con] [] (B (numB x.con)):=num_sat _
  rw[show numsB x=(numB x.node&&(numB x.img&&(numB x.dev&&numB x.con))) from rfl]
  cases e0:numB x.node with
  |false=>
   rw[e0] at g0
   refine uR ?_;intro K hK
   refine uH ?_
   refine callF uTS (g0) uTS uTS uTS ?_;refine uS ?_
   try simp only[go_sem,Nat.reduceAdd,Nat.reduceSub,Nat.reduceMul,Nat.reduceLT,Nat.reduceEqDiff,Nat.reduceBEq,Nat.reduceLeDiff,Int.reduceToNat,↓reduceIte,Int.reduceEq,Int.reduceLT,Int.reduceLE,Int.reduceAdd,Int.reduceSub,Int.reduceNeg,reduceCtorEq]
   refine uH ?_
   refine hK _ ?_;clear hK K
   (refine awp_ret (ret1 uRT ?_);try rfl)
  |true=>
   rw[e0] at g0
   cases e1:numB x.img with
   |false=>
    rw[e1] at g1
    refine uR ?_;intro K hK
    refine uH ?_
    refine callF uTS (g0) uTS uTS uTS ?_;refine uS ?_
    try simp only[go_sem,Nat.reduceAdd,Nat.reduceSub,Nat.reduceMul,Nat.reduceLT,Nat.reduceEqDiff,Nat.reduceBEq,Nat.reduceLeDiff,Int.reduceToNat,↓reduceIte,Int.reduceEq,Int.reduceLT,Int.reduceLE,Int.reduceAdd,Int.reduceSub,Int.reduceNeg,reduceCtorEq]
    refine uH ?_
    refine callF uTS (g1) uTS uTS uTS ?_;refine uS ?_
    try simp only[go_sem,Nat.reduceAdd,Nat.reduceSub,Nat.reduceMul,Nat.reduceLT,Nat.reduceEqDiff,Nat.reduceBEq,Nat.reduceLeDiff,Int.reduceToNat,↓reduceIte,Int.reduceEq,Int.reduceLT,Int.reduceLE,Int.reduceAdd,Int.reduceSub,Int.reduceNeg,reduceCtorEq]
    refine uH ?_
    refine hK _ ?_;clear hK K
    (refine awp_ret (ret1 uRT ?_);try rfl)
   |true=>
    rw[e1] at g1
    cases e2:numB x.dev with
    |false=>
     rw[e2] at g2
     refine uR ?_;intro K hK
     refine uH ?_
     refine callF uTS (g0) uTS uTS uTS ?_;refine uS ?_
     try simp only[go_sem,Nat.reduceAdd,Nat.reduceSub,Nat.reduceMul,Nat.reduceLT,Nat.reduceEqDiff,Nat.reduceBEq,Nat.reduceLeDiff,Int.reduceToNat,↓reduceIte,Int.reduceEq,Int.reduceLT,Int.reduceLE,Int.reduceAdd,Int.reduceSub,Int.reduceNeg,reduceCtorEq]
     refine uH ?_
     refine callF uTS (g1) uTS uTS uTS ?_;refine uS ?_
     try simp only[go_sem,Nat.reduceAdd,Nat.reduceSub,Nat.reduceMul,Nat.reduceLT,Nat.reduceEqDiff,Nat.reduceBEq,Nat.reduceLeDiff,Int.reduceToNat,↓reduceIte,Int.reduceEq,Int.reduceLT,Int.reduceLE,Int.reduceAdd,Int.reduceSub,Int.reduceNeg,reduceCtorEq]
     refine uH ?_
     refine callF uTS (g2) uTS uTS uTS ?_;refine uS ?_
     try simp only[go_sem,Nat.reduceAdd,Nat.reduceSub,Nat.reduceMul,Nat.reduceLT,Nat.reduceEqDiff,Nat.reduceBEq,Nat.reduceLeDiff,Int.reduceToNat,↓reduceIte,Int.reduceEq,Int.reduceLT,Int.reduceLE,Int.reduceAdd,Int.reduceSub,Int.reduceNeg,reduceCtorEq]
     refine uH ?_
     refine hK _ ?_;clear hK K
     (refine awp_ret (ret1 uRT ?_);try rfl)
    |true=>
     rw[e2] at g2
     cases e3:numB x.con with
     |false=>
      rw[e3] at g3
      refine uR ?_;intro K hK
      refine uH ?_
      refine callF uTS (g0) uTS uTS uTS ?_;refine uS ?_
      try simp only[go_sem,Nat.reduceAdd,Nat.reduceSub,Nat.reduceMul,Nat.reduceLT,Nat.reduceEqDiff,Nat.reduceBEq,Nat.reduceLeDiff,Int.reduceToNat,↓reduceIte,Int.reduceEq,Int.reduceLT,Int.reduceLE,Int.reduceAdd,Int.reduceSub,Int.reduceNeg,reduceCtorEq]
      refine uH ?_
      refine callF uTS (g1) uTS uTS uTS ?_;refine uS ?_
      try simp only[go_sem,Nat.reduceAdd,Nat.reduceSub,Nat.reduceMul,Nat.reduceLT,Nat.reduceEqDiff,Nat.reduceBEq,Nat.reduceLeDiff,Int.reduceToNat,↓reduceIte,Int.reduceEq,Int.reduceLT,Int.reduceLE,Int.reduceAdd,Int.reduceSub,Int.reduceNeg,reduceCtorEq]
      refine uH ?_
      refine callF uTS (g2) uTS uTS uTS ?_;refine uS ?_
      try simp only[go_sem,Nat.reduceAdd,Nat.reduceSub,Nat.reduceMul,Nat.reduceLT,Nat.reduceEqDiff,Nat.reduceBEq,Nat.reduceLeDiff,Int.reduceToNat,↓reduceIte,Int.reduceEq,Int.reduceLT,Int.reduceLE,Int.reduceAdd,Int.reduceSub,Int.reduceNeg,reduceCtorEq]
      refine uH ?_
      refine callF uTS (g3) uTS uTS uTS ?_;refine uS ?_
      try simp only[go_sem,Nat.reduceAdd,Nat.reduceSub,Nat.reduceMul,Nat.reduceLT,Nat.reduceEqDiff,Nat.reduceBEq,Nat.reduceLeDiff,Int.reduceToNat,↓reduceIte,Int.reduceEq,Int.reduceLT,Int.reduceLE,Int.reduceAdd,Int.reduceSub,Int.reduceNeg,reduceCtorEq]
      refine uH ?_
      refine hK _ ?_;clear hK K
      (refine awp_ret (ret1 uRT ?_);try rfl)
     |true=>
      rw[e3] at g3
      refine uR ?_;intro K hK
      refine uH ?_
      refine callF uTS (g0) uTS uTS uTS ?_;refine uS ?_
      try simp only[go_sem,Nat.reduceAdd,Nat.reduceSub,Nat.reduceMul,Nat.reduceLT,Nat.reduceEqDiff,Nat.reduceBEq,Nat.reduceLeDiff,Int.reduceToNat,↓reduceIte,Int.reduceEq,Int.reduceLT,Int.reduceLE,Int.reduceAdd,Int.reduceSub,Int.reduceNeg,reduceCtorEq]
      refine uH ?_
      refine callF uTS (g1) uTS uTS uTS ?_;refine uS ?_
      try simp only[go_sem,Nat.reduceAdd,Nat.reduceSub,Nat.reduceMul,Nat.reduceLT,Nat.reduceEqDiff,Nat.reduceBEq,Nat.reduceLeDiff,Int.reduceToNat,↓reduceIte,Int.reduceEq,Int.reduceLT,Int.reduceLE,Int.reduceAdd,Int.reduceSub,Int.reduceNeg,reduceCtorEq]
      refine uH ?_
      refine callF uTS (g2) uTS uTS uTS ?_;refine uS ?_
      try simp only[go_sem,Nat.reduceAdd,Nat.reduceSub,Nat.reduceMul,Nat.reduceLT,Nat.reduceEqDiff,Nat.reduceBEq,Nat.reduceLeDiff,Int.reduceToNat,↓reduceIte,Int.reduceEq,Int.reduceLT,Int.reduceLE,Int.reduceAdd,Int.reduceSub,Int.reduceNeg,reduceCtorEq]
      refine uH ?_
      refine callF uTS (g3) uTS uTS uTS ?_;refine uS ?_
      try simp only[go_sem,Nat.reduceAdd,Nat.reduceSub,Nat.reduceMul,Nat.reduceLT,Nat.reduceEqDiff,Nat.reduceBEq,Nat.reduceLeDiff,Int.reduceToNat,↓reduceIte,Int.reduceEq,Int.reduceLT,Int.reduceLE,Int.reduceAdd,Int.reduceSub,Int.reduceNeg,reduceCtorEq]
      refine uH ?_
      refine hK _ ?_;clear hK K
      (refine awp_ret (ret1 uRT ?_);try rfl)
theorem plain_8 (x:Acx) (hk:1<=x.k/\x.k<=14) (h1:x.mv.length<=1000000) (h2:x.gl.length<=1000000) (ho:x=only x) (h3:(only x).mv.length<=1000000) (h4:(only x).gl.length<=1000000) (hq:x.k=8):SatG Tryz.prog tab 37 [] [x.av] [] (B (x.plt.ok&&numsB x)):=by
 have k1:decide (x.k<1)=false:=decide_eq_false (by omega)
 have k2:decide (14<x.k)=false:=decide_eq_false (by omega)
 have g1:=only_sat x
 have g2:=rsame_sat x (only x) h1 h3 h2 h4
 have e1:decide (x.k=1)=false:=decide_eq_false (by omega)
 have e3:decide (x.k=3)=false:=decide_eq_false (by omega)
 have e5:decide (x.k=5)=false:=decide_eq_false (by omega)
 have e2:decide (x.k=2)=false:=decide_eq_false (by omega)
 have e10:decide (x.k=10)=false:=decide_eq_false (by omega)
 have e8:decide (x.k=8)=true:=decide_eq_true (by omega)
 have e9:decide (x.k=9)=false:=decide_eq_false (by omega)
 have e13:decide (x.k=13)=false:=decide_eq_false (by omega)
 rw[decide_eq_true ho] at g2
 refine uFN Tryz.func37 Tryz.ntmps37 ?_;intro w e X hC
 refine uA ?_
 refine uD1 (uI @k1 @k2) ?_;intro K hK
 refine uH ?_
 refine callP uTS (g1) uTS uTS uTS ?_;refine uS ?_
 refine uH ?_
 refine callF uTS (g2) uTS uTS uTS ?_;refine uS ?_
 refine uH ?_
 refine hK _ ?_;clear hK K
 refine uF ?_
 repeat first|refine uC ?_|refine uA1 (uI @e1 (uI @e3 (uI @e5 (uI @e2 (uI @e10 (uI @e8 (uI @e9 @e13))))))) ?_
 clear g1 g2
 have gp:=rvalid_sat x.plt
 refine uR ?_;intro K hK
 refine uH ?_
 refine callF uTS (gp) uTS uTS uTS ?_;refine uS ?_
 refine uH ?_
 refine hK _ ?_;clear hK K
 cases ep:x.plt.ok with
 |false=>
  refine uT ?_
  repeat refine uA ?_
  (refine awp_ret (ret1 uRT ?_);try rfl)
 |true=>
  refine uF ?_
  have g0:SatG Tryz.prog tab 70 [] [I x.node] [] (B (numB x.node)):=num_sat _
  have g1:SatG Tryz.prog tab 70 [] [I x.img] [] (B (numB x.img)):=num_sat _
  have g2:SatG Tryz.prog tab 70 [] [I x.dev] [] (B (numB x.dev)):=num_sat _
  have g3:SatG Tryz.prog tab 70 [] [I x.con] [] (B (numB x.con)):=num_sat _
  rw[show numsB x=(numB x.node&&(numB x.img&&(numB x.dev&&numB x.con))) from rfl]
  cases e0:numB x.node with
  |false=>
   rw[e0] at g0
   refine uR ?_;intro K hK
   refine uH ?_
   refine callF uTS (g0) uTS uTS uTS ?_;refine uS ?_
   try simp only[go_sem,Nat.reduceAdd,Nat.reduceSub,Nat.reduceMul,Nat.reduceLT,Nat.reduceEqDiff,Nat.reduceBEq,Nat.reduceLeDiff,Int.reduceToNat,↓reduceIte,Int.reduceEq,Int.reduceLT,Int.reduceLE,Int.reduceAdd,Int.reduceSub,Int.reduceNeg,reduceCtorEq]
   refine uH ?_
   refine hK _ ?_;clear hK K
   (refine awp_ret (ret1 uRT ?_);try rfl)
  |true=>
   rw[e0] at g0
   cases e1:numB x.img with
   |false=>
    rw[e1] at g1
    refine uR ?_;intro K hK
    refine uH ?_
    refine callF uTS (g0) uTS uTS uTS ?_;refine uS ?_
    try simp only[go_sem,Nat.reduceAdd,Nat.reduceSub,Nat.reduceMul,Nat.reduceLT,Nat.reduceEqDiff,Nat.reduceBEq,Nat.reduceLeDiff,Int.reduceToNat,↓reduceIte,Int.reduceEq,Int.reduceLT,Int.reduceLE,Int.reduceAdd,Int.reduceSub,Int.reduceNeg,reduceCtorEq]
    refine uH ?_
    refine callF uTS (g1) uTS uTS uTS ?_;refine uS ?_
    try simp only[go_sem,Nat.reduceAdd,Nat.reduceSub,Nat.reduceMul,Nat.reduceLT,Nat.reduceEqDiff,Nat.reduceBEq,Nat.reduceLeDiff,Int.reduceToNat,↓reduceIte,Int.reduceEq,Int.reduceLT,Int.reduceLE,Int.reduceAdd,Int.reduceSub,Int.reduceNeg,reduceCtorEq]
    refine uH ?_
    refine hK _ ?_;clear hK K
    (refine awp_ret (ret1 uRT ?_);try rfl)
   |true=>
    rw[e1] at g1
    cases e2:numB x.dev with
    |false=>
     rw[e2] at g2
     refine uR ?_;intro K hK
     refine uH ?_
     refine callF uTS (g0) uTS uTS uTS ?_;refine uS ?_
     try simp only[go_sem,Nat.reduceAdd,Nat.reduceSub,Nat.reduceMul,Nat.reduceLT,Nat.reduceEqDiff,Nat.reduceBEq,Nat.reduceLeDiff,Int.reduceToNat,↓reduceIte,Int.reduceEq,Int.reduceLT,Int.reduceLE,Int.reduceAdd,Int.reduceSub,Int.reduceNeg,reduceCtorEq]
     refine uH ?_
     refine callF uTS (g1) uTS uTS uTS ?_;refine uS ?_
     try simp only[go_sem,Nat.reduceAdd,Nat.reduceSub,Nat.reduceMul,Nat.reduceLT,Nat.reduceEqDiff,Nat.reduceBEq,Nat.reduceLeDiff,Int.reduceToNat,↓reduceIte,Int.reduceEq,Int.reduceLT,Int.reduceLE,Int.reduceAdd,Int.reduceSub,Int.reduceNeg,reduceCtorEq]
     refine uH ?_
     refine callF uTS (g2) uTS uTS uTS ?_;refine uS ?_
     try simp only[go_sem,Nat.reduceAdd,Nat.reduceSub,Nat.reduceMul,Nat.reduceLT,Nat.reduceEqDiff,Nat.reduceBEq,Nat.reduceLeDiff,Int.reduceToNat,↓reduceIte,Int.reduceEq,Int.reduceLT,Int.reduceLE,Int.reduceAdd,Int.reduceSub,Int.reduceNeg,reduceCtorEq]
     refine uH ?_
     refine hK _ ?_;clear hK K
     (refine awp_ret (ret1 uRT ?_);try rfl)
    |true=>
     rw[e2] at g2
     cases e3:numB x.con with
     |false=>
      rw[e3] at g3
      refine uR ?_;intro K hK
      refine uH ?_
      refine callF uTS (g0) uTS uTS uTS ?_;refine uS ?_
      try simp only[go_sem,Nat.reduceAdd,Nat.reduceSub,Nat.reduceMul,Nat.reduceLT,Nat.reduceEqDiff,Nat.reduceBEq,Nat.reduceLeDiff,Int.reduceToNat,↓reduceIte,Int.reduceEq,Int.reduceLT,Int.reduceLE,Int.reduceAdd,Int.reduceSub,Int.reduceNeg,reduceCtorEq]
      refine uH ?_
      refine callF uTS (g1) uTS uTS uTS ?_;refine uS ?_
      try simp only[go_sem,Nat.reduceAdd,Nat.reduceSub,Nat.reduceMul,Nat.reduceLT,Nat.reduceEqDiff,Nat.reduceBEq,Nat.reduceLeDiff,Int.reduceToNat,↓reduceIte,Int.reduceEq,Int.reduceLT,Int.reduceLE,Int.reduceAdd,Int.reduceSub,Int.reduceNeg,reduceCtorEq]
      refine uH ?_
      refine callF uTS (g2) uTS uTS uTS ?_;refine uS ?_
      try simp only[go_sem,Nat.reduceAdd,Nat.reduceSub,Nat.reduceMul,Nat.reduceLT,Nat.reduceEqDiff,Nat.reduceBEq,Nat.reduceLeDiff,Int.reduceToNat,↓reduceIte,Int.reduceEq,Int.reduceLT,Int.reduceLE,Int.reduceAdd,Int.reduceSub,Int.reduceNeg,reduceCtorEq]
      refine uH ?_
      refine callF uTS (g3) uTS uTS uTS ?_;refine uS ?_
      try simp only[go_sem,Nat.reduceAdd,Nat.reduceSub,Nat.reduceMul,Nat.reduceLT,Nat.reduceEqDiff,Nat.reduceBEq,Nat.reduceLeDiff,Int.reduceToNat,↓reduceIte,Int.reduceEq,Int.reduceLT,Int.reduceLE,Int.reduceAdd,Int.reduceSub,Int.reduceNeg,reduceCtorEq]
      refine uH ?_
      refine hK _ ?_;clear hK K
      (refine awp_ret (ret1 uRT ?_);try rfl)
     |true=>
      rw[e3] at g3
      refine uR ?_;intro K hK
      refine uH ?_
      refine callF uTS (g0) uTS uTS uTS ?_;refine uS ?_
      try simp only[go_sem,Nat.reduceAdd,Nat.reduceSub,Nat.reduceMul,Nat.reduceLT,Nat.reduceEqDiff,Nat.reduceBEq,Nat.reduceLeDiff,Int.reduceToNat,↓reduceIte,Int.reduceEq,Int.reduceLT,Int.reduceLE,Int.reduceAdd,Int.reduceSub,Int.reduceNeg,reduceCtorEq]
      refine uH ?_
      refine callF uTS (g1) uTS uTS uTS ?_;refine uS ?_
      try simp only[go_sem,Nat.reduceAdd,Nat.reduceSub,Nat.reduceMul,Nat.reduceLT,Nat.reduceEqDiff,Nat.reduceBEq,Nat.reduceLeDiff,Int.reduceToNat,↓reduceIte,Int.reduceEq,Int.reduceLT,Int.reduceLE,Int.reduceAdd,Int.reduceSub,Int.reduceNeg,reduceCtorEq]
      refine uH ?_
      refine callF uTS (g2) uTS uTS uTS ?_;refine uS ?_
      try simp only[go_sem,Nat.reduceAdd,Nat.reduceSub,Nat.reduceMul,Nat.reduceLT,Nat.reduceEqDiff,Nat.reduceBEq,Nat.reduceLeDiff,Int.reduceToNat,↓reduceIte,Int.reduceEq,Int.reduceLT,Int.reduceLE,Int.reduceAdd,Int.reduceSub,Int.reduceNeg,reduceCtorEq]
      refine uH ?_
      refine callF uTS (g3) uTS uTS uTS ?_;refine uS ?_
      try simp only[go_sem,Nat.reduceAdd,Nat.reduceSub,Nat.reduceMul,Nat.reduceLT,Nat.reduceEqDiff,Nat.reduceBEq,Nat.reduceLeDiff,Int.reduceToNat,↓reduceIte,Int.reduceEq,Int.reduceLT,Int.reduceLE,Int.reduceAdd,Int.reduceSub,Int.reduceNeg,reduceCtorEq]
      refine uH ?_
      refine hK _ ?_;clear hK K
      (refine awp_ret (ret1 uRT ?_);try rfl)
theorem plain_9 (x:Acx) (hk:1<=x.k/\x.k<=14) (h1:x.mv.length<=1000000) (h2:x.gl.length<=1000000) (ho:x=only x) (h3:(only x).mv.length<=1000000) (h4:(only x).gl.length<=1000000) (hq:x.k=9):SatG Tryz.prog tab 37 [] [x.av] [] (B (x.plt.ok&&numsB x)):=by
 have k1:decide (x.k<1)=false:=decide_eq_false (by omega)
 have k2:decide (14<x.k)=false:=decide_eq_false (by omega)
 have g1:=only_sat x
 have g2:=rsame_sat x (only x) h1 h3 h2 h4
 have e1:decide (x.k=1)=false:=decide_eq_false (by omega)
 have e3:decide (x.k=3)=false:=decide_eq_false (by omega)
 have e5:decide (x.k=5)=false:=decide_eq_false (by omega)
 have e2:decide (x.k=2)=false:=decide_eq_false (by omega)
 have e10:decide (x.k=10)=false:=decide_eq_false (by omega)
 have e8:decide (x.k=8)=false:=decide_eq_false (by omega)
 have e9:decide (x.k=9)=true:=decide_eq_true (by omega)
 have e13:decide (x.k=13)=false:=decide_eq_false (by omega)
 rw[decide_eq_true ho] at g2
 refine uFN Tryz.func37 Tryz.ntmps37 ?_;intro w e X hC
 refine uA ?_
 refine uD1 (uI @k1 @k2) ?_;intro K hK
 refine uH ?_
 refine callP uTS (g1) uTS uTS uTS ?_;refine uS ?_
 refine uH ?_
 refine callF uTS (g2) uTS uTS uTS ?_;refine uS ?_
 refine uH ?_
 refine hK _ ?_;clear hK K
 refine uF ?_
 repeat first|refine uC ?_|refine uA1 (uI @e1 (uI @e3 (uI @e5 (uI @e2 (uI @e10 (uI @e8 (uI @e9 @e13))))))) ?_
 clear g1 g2
 have gp:=rvalid_sat x.plt
 refine uR ?_;intro K hK
 refine uH ?_
 refine callF uTS (gp) uTS uTS uTS ?_;refine uS ?_
 refine uH ?_
 refine hK _ ?_;clear hK K
 cases ep:x.plt.ok with
 |false=>
  refine uT ?_
  repeat refine uA ?_
  (refine awp_ret (ret1 uRT ?_);try rfl)
 |true=>
  refine uF ?_
  have g0:SatG Tryz.prog tab 70 [] [I x.node] [] (B (numB x.node)):=num_sat _
  have g1:SatG Tryz.prog tab 70 [] [I x.img] [] (B (numB x.img)):=num_sat _
  have g2:SatG Tryz.prog tab 70 [] [I x.dev] [] (B (numB x.dev)):=num_sat _
  have g3:SatG Tryz.prog tab 70 [] [I x.con] [] (B (numB x.con)):=num_sat _
  rw[show numsB x=(numB x.node&&(numB x.img&&(numB x.dev&&numB x.con))) from rfl]
  cases e0:numB x.node with
  |false=>
   rw[e0] at g0
   refine uR ?_;intro K hK
   refine uH ?_
   refine callF uTS (g0) uTS uTS uTS ?_;refine uS ?_
   try simp only[go_sem,Nat.reduceAdd,Nat.reduceSub,Nat.reduceMul,Nat.reduceLT,Nat.reduceEqDiff,Nat.reduceBEq,Nat.reduceLeDiff,Int.reduceToNat,↓reduceIte,Int.reduceEq,Int.reduceLT,Int.reduceLE,Int.reduceAdd,Int.reduceSub,Int.reduceNeg,reduceCtorEq]
   refine uH ?_
   refine hK _ ?_;clear hK K
   (refine awp_ret (ret1 uRT ?_);try rfl)
  |true=>
   rw[e0] at g0
   cases e1:numB x.img with
   |false=>
    rw[e1] at g1
    refine uR ?_;intro K hK
    refine uH ?_
    refine callF uTS (g0) uTS uTS uTS ?_;refine uS ?_
    try simp only[go_sem,Nat.reduceAdd,Nat.reduceSub,Nat.reduceMul,Nat.reduceLT,Nat.reduceEqDiff,Nat.reduceBEq,Nat.reduceLeDiff,Int.reduceToNat,↓reduceIte,Int.reduceEq,Int.reduceLT,Int.reduceLE,Int.reduceAdd,Int.reduceSub,Int.reduceNeg,reduceCtorEq]
    refine uH ?_
    refine callF uTS (g1) uTS uTS uTS ?_;refine uS ?_
    try simp only[go_sem,Nat.reduceAdd,Nat.reduceSub,Nat.reduceMul,Nat.reduceLT,Nat.reduceEqDiff,Nat.reduceBEq,Nat.reduceLeDiff,Int.reduceToNat,↓reduceIte,Int.reduceEq,Int.reduceLT,Int.reduceLE,Int.reduceAdd,Int.reduceSub,Int.reduceNeg,reduceCtorEq]
    refine uH ?_
    refine hK _ ?_;clear hK K
    (refine awp_ret (ret1 uRT ?_);try rfl)
   |true=>
    rw[e1] at g1
    cases e2:numB x.dev with
    |false=>
     rw[e2] at g2
     refine uR ?_;intro K hK
     refine uH ?_
     refine callF uTS (g0) uTS uTS uTS ?_;refine uS ?_
     try simp only[go_sem,Nat.reduceAdd,Nat.reduceSub,Nat.reduceMul,Nat.reduceLT,Nat.reduceEqDiff,Nat.reduceBEq,Nat.reduceLeDiff,Int.reduceToNat,↓reduceIte,Int.reduceEq,Int.reduceLT,Int.reduceLE,Int.reduceAdd,Int.reduceSub,Int.reduceNeg,reduceCtorEq]
     refine uH ?_
     refine callF uTS (g1) uTS uTS uTS ?_;refine uS ?_
     try simp only[go_sem,Nat.reduceAdd,Nat.reduceSub,Nat.reduceMul,Nat.reduceLT,Nat.reduceEqDiff,Nat.reduceBEq,Nat.reduceLeDiff,Int.reduceToNat,↓reduceIte,Int.reduceEq,Int.reduceLT,Int.reduceLE,Int.reduceAdd,Int.reduceSub,Int.reduceNeg,reduceCtorEq]
     refine uH ?_
     refine callF uTS (g2) uTS uTS uTS ?_;refine uS ?_
     try simp only[go_sem,Nat.reduceAdd,Nat.reduceSub,Nat.reduceMul,Nat.reduceLT,Nat.reduceEqDiff,Nat.reduceBEq,Nat.reduceLeDiff,Int.reduceToNat,↓reduceIte,Int.reduceEq,Int.reduceLT,Int.reduceLE,Int.reduceAdd,Int.reduceSub,Int.reduceNeg,reduceCtorEq]
     refine uH ?_
     refine hK _ ?_;clear hK K
     (refine awp_ret (ret1 uRT ?_);try rfl)
    |true=>
     rw[e2] at g2
     cases e3:numB x.con with
     |false=>
      rw[e3] at g3
      refine uR ?_;intro K hK
      refine uH ?_
      refine callF uTS (g0) uTS uTS uTS ?_;refine uS ?_
      try simp only[go_sem,Nat.reduceAdd,Nat.reduceSub,Nat.reduceMul,Nat.reduceLT,Nat.reduceEqDiff,Nat.reduceBEq,Nat.reduceLeDiff,Int.reduceToNat,↓reduceIte,Int.reduceEq,Int.reduceLT,Int.reduceLE,Int.reduceAdd,Int.reduceSub,Int.reduceNeg,reduceCtorEq]
      refine uH ?_
      refine callF uTS (g1) uTS uTS uTS ?_;refine uS ?_
      try simp only[go_sem,Nat.reduceAdd,Nat.reduceSub,Nat.reduceMul,Nat.reduceLT,Nat.reduceEqDiff,Nat.reduceBEq,Nat.reduceLeDiff,Int.reduceToNat,↓reduceIte,Int.reduceEq,Int.reduceLT,Int.reduceLE,Int.reduceAdd,Int.reduceSub,Int.reduceNeg,reduceCtorEq]
      refine uH ?_
      refine callF uTS (g2) uTS uTS uTS ?_;refine uS ?_
      try simp only[go_sem,Nat.reduceAdd,Nat.reduceSub,Nat.reduceMul,Nat.reduceLT,Nat.reduceEqDiff,Nat.reduceBEq,Nat.reduceLeDiff,Int.reduceToNat,↓reduceIte,Int.reduceEq,Int.reduceLT,Int.reduceLE,Int.reduceAdd,Int.reduceSub,Int.reduceNeg,reduceCtorEq]
      refine uH ?_
      refine callF uTS (g3) uTS uTS uTS ?_;refine uS ?_
      try simp only[go_sem,Nat.reduceAdd,Nat.reduceSub,Nat.reduceMul,Nat.reduceLT,Nat.reduceEqDiff,Nat.reduceBEq,Nat.reduceLeDiff,Int.reduceToNat,↓reduceIte,Int.reduceEq,Int.reduceLT,Int.reduceLE,Int.reduceAdd,Int.reduceSub,Int.reduceNeg,reduceCtorEq]
      refine uH ?_
      refine hK _ ?_;clear hK K
      (refine awp_ret (ret1 uRT ?_);try rfl)
     |true=>
      rw[e3] at g3
      refine uR ?_;intro K hK
      refine uH ?_
      refine callF uTS (g0) uTS uTS uTS ?_;refine uS ?_
      try simp only[go_sem,Nat.reduceAdd,Nat.reduceSub,Nat.reduceMul,Nat.reduceLT,Nat.reduceEqDiff,Nat.reduceBEq,Nat.reduceLeDiff,Int.reduceToNat,↓reduceIte,Int.reduceEq,Int.reduceLT,Int.reduceLE,Int.reduceAdd,Int.reduceSub,Int.reduceNeg,reduceCtorEq]
      refine uH ?_
      refine callF uTS (g1) uTS uTS uTS ?_;refine uS ?_
      try simp only[go_sem,Nat.reduceAdd,Nat.reduceSub,Nat.reduceMul,Nat.reduceLT,Nat.reduceEqDiff,Nat.reduceBEq,Nat.reduceLeDiff,Int.reduceToNat,↓reduceIte,Int.reduceEq,Int.reduceLT,Int.reduceLE,Int.reduceAdd,Int.reduceSub,Int.reduceNeg,reduceCtorEq]
      refine uH ?_
      refine callF uTS (g2) uTS uTS uTS ?_;refine uS ?_
      try simp only[go_sem,Nat.reduceAdd,Nat.reduceSub,Nat.reduceMul,Nat.reduceLT,Nat.reduceEqDiff,Nat.reduceBEq,Nat.reduceLeDiff,Int.reduceToNat,↓reduceIte,Int.reduceEq,Int.reduceLT,Int.reduceLE,Int.reduceAdd,Int.reduceSub,Int.reduceNeg,reduceCtorEq]
      refine uH ?_
      refine callF uTS (g3) uTS uTS uTS ?_;refine uS ?_
      try simp only[go_sem,Nat.reduceAdd,Nat.reduceSub,Nat.reduceMul,Nat.reduceLT,Nat.reduceEqDiff,Nat.reduceBEq,Nat.reduceLeDiff,Int.reduceToNat,↓reduceIte,Int.reduceEq,Int.reduceLT,Int.reduceLE,Int.reduceAdd,Int.reduceSub,Int.reduceNeg,reduceCtorEq]
      refine uH ?_
      refine hK _ ?_;clear hK K
      (refine awp_ret (ret1 uRT ?_);try rfl)
theorem plain_5 (x:Acx) (hk:1<=x.k/\x.k<=14) (h1:x.mv.length<=1000000) (h2:x.gl.length<=1000000) (ho:x=only x) (h3:(only x).mv.length<=1000000) (h4:(only x).gl.length<=1000000) (hq:x.k=5) (h5:x.rev.flt.car.length<=1000000) (h6:x.rev.flt.suf.length<=1000000):SatG Tryz.prog tab 37 [] [x.av] [] (B (revB x.rev)):=by
 have k1:decide (x.k<1)=false:=decide_eq_false (by omega)
 have k2:decide (14<x.k)=false:=decide_eq_false (by omega)
 have g1:=only_sat x
 have g2:=rsame_sat x (only x) h1 h3 h2 h4
 have e1:decide (x.k=1)=false:=decide_eq_false (by omega)
 have e3:decide (x.k=3)=false:=decide_eq_false (by omega)
 have e5:decide (x.k=5)=true:=decide_eq_true (by omega)
 have e2:decide (x.k=2)=false:=decide_eq_false (by omega)
 have e10:decide (x.k=10)=false:=decide_eq_false (by omega)
 have e8:decide (x.k=8)=false:=decide_eq_false (by omega)
 have e9:decide (x.k=9)=false:=decide_eq_false (by omega)
 have e13:decide (x.k=13)=false:=decide_eq_false (by omega)
 rw[decide_eq_true ho] at g2
 refine uFN Tryz.func37 Tryz.ntmps37 ?_;intro w e X hC
 refine uA ?_
 refine uD1 (uI @k1 @k2) ?_;intro K hK
 refine uH ?_
 refine callP uTS (g1) uTS uTS uTS ?_;refine uS ?_
 refine uH ?_
 refine callF uTS (g2) uTS uTS uTS ?_;refine uS ?_
 refine uH ?_
 refine hK _ ?_;clear hK K
 refine uF ?_
 repeat first|refine uC ?_|refine uA1 (uI @e1 (uI @e3 (uI @e5 (uI @e2 (uI @e10 (uI @e8 (uI @e9 @e13))))))) ?_
 clear g1 g2
 have g2:=rfvalid_sat x.rev.flt h5 h6
 cases e0:decide (x.rev.k<1) with
 |true=>
  refine uR1 @e0 ?_;intro K hK
  refine uH ?_
  refine hK _ ?_;clear hK K
  refine uT ?_
  rw[revB_n0 e0]
  repeat refine uA ?_
  (refine awp_ret (ret1 uRT ?_);try rfl)
 |false=>
  cases e1:decide (5<x.rev.k) with
  |true=>
   refine uR1 (uI @e0 @e1) ?_;intro K hK
   refine uH ?_
   refine hK _ ?_;clear hK K
   refine uT ?_
   rw[revB_n1 e1]
   repeat refine uA ?_
   (refine awp_ret (ret1 uRT ?_);try rfl)
  |false=>
   cases e2:x.rev.flt.ok with
   |false=>
    rw[e2] at g2
    refine uR1 (uI @e0 @e1) ?_;intro K hK
    refine uH ?_
    refine callF uTS (g2) uTS uTS uTS ?_;refine uS ?_
    try simp only[go_sem,Nat.reduceAdd,Nat.reduceSub,Nat.reduceMul,Nat.reduceLT,Nat.reduceEqDiff,Nat.reduceBEq,Nat.reduceLeDiff,Int.reduceToNat,↓reduceIte,Int.reduceEq,Int.reduceLT,Int.reduceLE,Int.reduceAdd,Int.reduceSub,Int.reduceNeg,reduceCtorEq,e0,e1]
    refine uH ?_
    refine hK _ ?_;clear hK K
    refine uT ?_
    rw[revB_n2 e2]
    repeat refine uA ?_
    (refine awp_ret (ret1 uRT ?_);try rfl)
   |true=>
    rw[e2] at g2
    refine uR1 (uI @e0 @e1) ?_;intro K hK
    refine uH ?_
    refine callF uTS (g2) uTS uTS uTS ?_;refine uS ?_
    try simp only[go_sem,Nat.reduceAdd,Nat.reduceSub,Nat.reduceMul,Nat.reduceLT,Nat.reduceEqDiff,Nat.reduceBEq,Nat.reduceLeDiff,Int.reduceToNat,↓reduceIte,Int.reduceEq,Int.reduceLT,Int.reduceLE,Int.reduceAdd,Int.reduceSub,Int.reduceNeg,reduceCtorEq,e0,e1]
    refine uH ?_
    refine hK _ ?_;clear hK K
    refine uF ?_
    rw[revB_yes e0 e1 e2]
    clear g2
    have g0:SatG Tryz.prog tab 70 [] [I x.rev.amt] [] (B (numB x.rev.amt)):=num_sat _
    cases f0:numB x.rev.amt with
    |false=>
     rw[f0] at g0
     refine uR ?_;intro K hK
     refine uH ?_
     refine callF uTS (g0) uTS uTS uTS ?_;refine uS ?_
     refine uH ?_
     refine hK _ ?_;clear hK K
     (refine awp_ret (ret1 uRT ?_);try rfl)
    |true=>
     rw[f0] at g0
     cases f1:decide (x.rev.k<=3) with
     |true=>
      refine uR1 @f1 ?_;intro K hK
      refine uH ?_
      refine callF uTS (g0) uTS uTS uTS ?_;refine uS ?_
      try simp only[go_sem,Nat.reduceAdd,Nat.reduceSub,Nat.reduceMul,Nat.reduceLT,Nat.reduceEqDiff,Nat.reduceBEq,Nat.reduceLeDiff,Int.reduceToNat,↓reduceIte,Int.reduceEq,Int.reduceLT,Int.reduceLE,Int.reduceAdd,Int.reduceSub,Int.reduceNeg,reduceCtorEq,f1]
      refine uH ?_
      refine hK _ ?_;clear hK K
      (refine awp_ret (ret1 uRT ?_);try rfl)
     |false=>
      refine uR1 @f1 ?_;intro K hK
      refine uH ?_
      refine callF uTS (g0) uTS uTS uTS ?_;refine uS ?_
      try simp only[go_sem,Nat.reduceAdd,Nat.reduceSub,Nat.reduceMul,Nat.reduceLT,Nat.reduceEqDiff,Nat.reduceBEq,Nat.reduceLeDiff,Int.reduceToNat,↓reduceIte,Int.reduceEq,Int.reduceLT,Int.reduceLE,Int.reduceAdd,Int.reduceSub,Int.reduceNeg,reduceCtorEq,f1]
      refine uH ?_
      refine hK _ ?_;clear hK K
      (refine awp_ret (ret1 uRT ?_);try rfl)
theorem only_mv (x:Acx):(only x).mv.length<=x.mv.length:=by
 unfold only
 split
 ·exact Nat.le_refl _
 ·repeat' split
  all_goals exact Nat.zero_le _
theorem only_gl (x:Acx):(only x).gl.length<=x.gl.length:=by
 unfold only
 split
 ·exact Nat.le_refl _
 ·repeat' split
  all_goals exact Nat.zero_le _
theorem plain_sat (x:Acx) (hx:SmA x):SatG Tryz.prog tab 37 [] [x.av] [] (B (plainA x)):=by
 have h1:x.mv.length<=1000000:=by have:=hx.mv;omega
 have h2:x.gl.length<=1000000:=by have:=hx.gl;omega
 have h3:(only x).mv.length<=1000000:=by have:=only_mv x;omega
 have h4:(only x).gl.length<=1000000:=by have:=only_gl x;omega
 by_cases k1:x.k<1
 ·rw[show plainA x=false by unfold plainA;rw[decide_eq_false (by omega)];rfl]
  exact plain_lo x k1
 by_cases k2:14<x.k
 ·rw[show plainA x=false by unfold plainA;rw[decide_eq_false (by omega)];rfl]
  exact plain_hi x k2
 have hk:1<=x.k/\x.k<=14:=by omega
 by_cases ho:x=only x
 ·rw[show plainA x=bodyB x by unfold plainA;rw[decide_eq_true hk,decide_eq_true ho];rfl]
  unfold bodyB
  by_cases q1:x.k=1
  ·rw[if_pos q1];exact plain_1 x hk h1 h2 ho h3 h4 q1
  rw[if_neg q1]
  by_cases q3:x.k=3
  ·rw[if_pos q3];exact plain_3 x hk h1 h2 ho h3 h4 q3 hx.tx
  rw[if_neg q3]
  by_cases q5:x.k=5
  ·rw[if_pos q5];exact plain_5 x hk h1 h2 ho h3 h4 q5 hx.rc hx.rs
  rw[if_neg q5]
  by_cases q13:x.k=13
  ·rw[if_pos q13];exact plain_13 x hk h1 h2 ho h3 h4 q13 hx.fc hx.fs
  rw[if_neg q13]
  by_cases q2:x.k=2
  ·rw[if_pos (by omega)];exact plain_2 x hk h1 h2 ho h3 h4 q2
  by_cases q10:x.k=10
  ·rw[if_pos (by omega)];exact plain_10 x hk h1 h2 ho h3 h4 q10
  by_cases q8:x.k=8
  ·rw[if_pos (by omega)];exact plain_8 x hk h1 h2 ho h3 h4 q8
  by_cases q9:x.k=9
  ·rw[if_pos (by omega)];exact plain_9 x hk h1 h2 ho h3 h4 q9
  rw[if_neg (by omega)]
  exact plain_0 x hk h1 h2 ho h3 h4 ⟨q1,q3,q5,q2,q10,q8,q9,q13⟩
 ·rw[show plainA x=false by unfold plainA;rw[decide_eq_false ho,Bool.false_and,Bool.and_false]]
  exact plain_sp x hk h1 h2 ho h3 h4
open Go.Scr
def actsG (l:List Int):Nat->Nat->List Acx->List Acx×Nat
 |0,a,out=>(out,a)
 |k+1,a,out=>actsG l k (gA l a).2 (if plainA (gA l a).1=true then out++[(gA l a).1] else out)
def genA (l:List Int) (a:Nat) (most:Int):List Acx×Nat:=actsG l (gN l a (most+1)).toNat (a+1) []
structure SmH (x:Acx):Prop where
 q:SmQ x
 ln:lineS x≠none
theorem SmH.g {x:Acx} (h:SmH x):SmG x:=⟨h.q.mv,h.q.gl,h.q.tx,h.q.sp,h.ln⟩
theorem SmQ.a {x:Acx} (h:SmQ x):SmA x:=⟨by have:=h.mv;omega,by have:=h.gl;omega,by have:=h.tx;omega,by have:=h.rc;omega,by have:=h.rs;omega,by have:=h.fc;omega,by have:=h.fs;omega⟩
theorem plainA_ln {x:Acx} (h:plainA x=true):lineS x≠none:=fun e=>by rw[plainA_line,e] at h;cases h
theorem actsG_ok (l:List Int):∀(k a:Nat) (out:List Acx),(∀x∈out,SmH x)->(∀x∈(actsG l k a out).1,SmH x)/\(actsG l k a out).1.length<=out.length+k
 |0,a,out,h=>⟨h,Nat.le_refl _⟩
 |k+1,a,out,h=>by
  unfold actsG
  by_cases c:plainA (gA l a).1=true
  ·rw[if_pos c]
   have:=actsG_ok l k (gA l a).2 (out++[(gA l a).1]) fun x hx=>by
    rcases List.mem_append.1 hx with hx|hx
    ·exact h x hx
    ·rw[List.mem_singleton.1 hx];exact⟨gA_sm l a,plainA_ln c⟩
   rw[List.length_append,List.length_singleton] at this
   exact⟨this.1,by omega⟩
  ·rw[if_neg c]
   have:=actsG_ok l k (gA l a).2 out h
   exact⟨this.1,by omega⟩
theorem genA_ok (l:List Int) (a:Nat) (most:Int) (h0:0<=most) (h1:most<=100):(∀x∈(genA l a most).1,SmH x)/\(genA l a most).1.length<=most.toNat:=by
 have b:=gN_lt (l:=l) (a:=a) (n:=most+1) (by omega)
 have:=actsG_ok l (gN l a (most+1)).toNat (a+1) [] (fun x hx=>by cases hx)
 rw[List.length_nil] at this
 exact⟨this.1,by unfold genA;omega⟩
theorem acts_sat (l:List Int) (a:Nat) (most:Int) (hf:Fits l) (h0:0<=most) (h1:most<=100):
  SatG Tryz.prog tab 20 (srcC l a) [.ptO 0 0 0 0 0,I most] (srcC l (genA l a most).2) (.sl (acts (genA l a most).1) false):=by
 have g0:=gN_sat l a (most+1) hf (by omega)
 have b:=gN_lt (l:=l) (a:=a) (n:=most+1) (by omega)
 unfold genA
 generalize gN l a (most+1)=n at*
 obtain⟨n,rfl⟩:∃m:Nat,n=m:=⟨n.toNat,by omega⟩
 rw[Int.toNat_natCast]
 generalize hT:actsG l n (a+1) []=T
 refine uFN Tryz.func20 Tryz.ntmps20 ?_;intro w e X hC
 repeat refine uA ?_
 refine uR ?_;intro K hK
 refine uH ?_
 refine callL rfl (g0) uTS uTS uTS uTS uTS ?_;refine uS ?_
 refine hK _ ?_;clear hK K
 refine uW ?_
 refine awp_loopW (fun i:Nat×Nat×Nat×List Acx=>⟨[(0, .ptO 0 0 0 0 0),(5, .slO 105 2 0 i.2.2.2.length),(6,I i.2.1)],(105,some (2, .own 30 23 (acts i.2.2.2)))::srcC l i.2.2.1,i.1⟩) (fun i=>actsG l i.2.1 i.2.2.1 i.2.2.2=T/\i.2.2.2.length+i.2.1<=1000) (fun i=>i.2.1) (_,n,a+1,[]) ⟨hT,by simp only[List.length_nil];omega⟩ (uKF) ?_
 rintro⟨ck,k,a',out⟩ ⟨hk,hl⟩
 simp only at hk hl
 repeat refine uA ?_
 refine uW ?_;refine condP _ rfl (fun h=>?_) (fun h=>?_)
 ·obtain⟨k,rfl⟩:∃m,k=m+1:=⟨k - 1,by omega⟩
  have g1:=gA_sat l a' out.length hf
  have gq:=(gA_sm l a').a
  have g2:=plain_sat (gA l a').1 gq
  rw[actsG] at hk
  have hk1:((k+1:Nat):Int) - 1=(k:Nat):=by omega
  generalize gA l a'=y at*
  obtain⟨x,a2⟩:=y
  simp only at hk g1 g2 gq
  refine uR ?_;intro K hK
  refine uH ?_
  refine callL rfl (g1) uTS uTS uTS uTS uTS ?_;refine uS ?_
  refine hK _ ?_;clear hK K
  cases hp:plainA x with
  |true=>
   rw[hp] at g2 hk
   rw[if_pos rfl] at hk
   have hsn:acts out++[x.av]=acts (out++[x]):=acts_snoc
   have hln:(out++[x]).length=out.length+1:=by simp
   refine uR ?_;intro K hK
   refine uH ?_
   refine callP uTS (g2) uTS uTS uTS ?_;refine uS ?_
   refine uH ?_
   refine hK _ ?_;clear hK K
   refine uT ?_
   repeat refine uA1 @hsn ?_
   refine⟨(_,k,a2,out++[x]),⟨hk,by simp only[List.length_append,List.length_singleton];omega⟩,by simp only;omega, .of (Nat.le_refl _) (uHF1 @hln) (uWF1 (uI @hln @hk1))⟩
  |false=>
   rw[hp] at g2 hk
   rw[if_neg (by decide)] at hk
   refine uR ?_;intro K hK
   refine uH ?_
   refine callP uTS (g2) uTS uTS uTS ?_;refine uS ?_
   refine uH ?_
   refine hK _ ?_;clear hK K
   refine uF ?_
   repeat refine uA ?_
   refine⟨(_,k,a2,out),⟨hk,by simp only;omega⟩,by simp only;omega, .of (Nat.le_refl _) uHF (uWF1 @hk1)⟩
 ·have:k=0:=by omega
  subst this
  refine awp_exit ?_
  rw[actsG] at hk
  subst hk
  repeat refine uA ?_
  refine awp_ret ?_;rw[show Tryz.f20.results.toList=[.tmp 4] from rfl];(refine(retBs uRG rfl uTC uTC ?_ ?_);all_goals (first|refine uSC ?_|exact uXC|skip))
open Go.Scr
theorem cut2_fits {l:List Int} (hr:∀x∈l,I64 x):Fits (cut2 l):=⟨by rw[cut2,List.length_take];omega,fun x hx=>hr x (List.mem_of_mem_take hx)⟩
theorem acts_takeA {a b:List Acx}:(acts (a++b)).take a.length=acts a:=by simp[acts]
theorem acts_dropA {a b:List Acx}:(acts (a++b)).drop a.length=acts b:=by simp[acts]
theorem parseR_sm:∀{n:Nat} {s:Bs} {out d:List Acx} {k e:Int},s.length<=1000000->s.count 32<=999->(∀x∈out,SmA x)->parseR n out s=(d,k,e)->∀x∈d,SmA x
 |0,s,out,d,k,e,_,_,ho,h=>by
  unfold parseR at h
  cases h;exact ho
 |n+1,s,out,d,k,e,hl,hc,ho,h=>by
  unfold parseR at h
  obtain⟨q1,q2,q3,q4⟩:=cut_parts s
  split at h
  ·cases h;exact ho
  ·split at h
   ·cases h;exact fun x hx=>by cases hx
   ·split at h
    ·cases h;exact fun x hx=>by cases hx
    ·rename_i x hx
     split at h
     ·rename_i hen
      refine parseR_sm (by have:=q4 hen;omega) (by omega) (fun y hy=>?_) h
      rcases List.mem_append.1 hy with hy|hy
      ·exact ho y hy
      ·rw[List.mem_singleton.1 hy]
       unfold parseS at hx
       split at hx
       ·injection hx with hx
        rw[<-hx]
        have hle:(splitL 32 (Lib.cut s [10]).1).length<=1000:=by rw[splitL_length];omega
        exact act_sm (r:=rd0 (Lib.cut s [10]).1) hle (by show(Lib.cut s [10]).1.length<=_;omega)
       ·cases hx
     ·cases h;exact fun x hx=>by cases hx
theorem back_law (l:List Int) (text:Bs) (hl:l.length<=9223372036854775807) (hr:∀x∈l,I64 x) (ht:text.length<=9223372036854775807):SatG Tryz.prog tab 5 [] [IS l,S (strOf text)] [] (B true):=by
 have hnew:=new_sat l hl
 have hf:=cut2_fits hr
 generalize cut2 l=l' at*
 have ga:=acts_sat l' 0 12 hf (by decide) (by decide)
 have oa:=genA_ok l' 0 12 (by decide) (by decide)
 generalize genA l' 0 12=A at*
 obtain⟨A,a1⟩:=A
 simp only at ga oa
 have gb:=acts_sat l' a1 12 hf (by decide) (by decide)
 have ob:=genA_ok l' a1 12 (by decide) (by decide)
 generalize genA l' a1 12=Bq at*
 obtain⟨Bq,a2⟩:=Bq
 simp only at gb ob
 obtain⟨oa1,oa2⟩:=oa
 obtain⟨ob1,ob2⟩:=ob
 have oa2:A.length<=12:=oa2
 have ob2:Bq.length<=12:=ob2
 obtain⟨tA,hA,lA,cA⟩:=acts_small (l:=A) fun x hx=>(oa1 x hx).g
 obtain⟨tB,hB,lB,cB⟩:=acts_small (l:=Bq) fun x hx=>(ob1 x hx).g
 have lA:tA.length<=24132:=Nat.le_trans lA (Nat.mul_le_mul_right 2011 oa2)
 have lB:tB.length<=24132:=Nat.le_trans lB (Nat.mul_le_mul_right 2011 ob2)
 have hAB:=fmtL_app hA hB
 obtain⟨fA,-⟩:=acts_back hA (by omega) (by omega)
 obtain⟨fB,-⟩:=acts_back hB (by omega) (by omega)
 obtain⟨fC,pC⟩:=acts_back hAB (by rw[List.length_append];omega) (by rw[List.length_append];omega)
 have g1:=format_sat A (by omega) fun x hx=>(oa1 x hx).q.a
 have g2:=format_sat Bq (by omega) fun x hx=>(ob1 x hx).q.a
 have g3:=format_sat (A++Bq) (by rw[List.length_append];omega) fun x hx=>by
  rcases List.mem_append.1 hx with hx|hx
  ·exact(oa1 x hx).q.a
  ·exact(ob1 x hx).q.a
 have g4:=parse_sat (tA++tB) (by rw[List.length_append];omega) (by rw[List.count_append];omega)
 rw[fA] at g1
 rw[fB] at g2
 rw[fC] at g3
 rw[pC] at g4
 have s1:=rsameAll_sat A A (by omega) (by omega) (fun x hx=>⟨by have:=(oa1 x hx).q.mv;omega,by have:=(oa1 x hx).q.gl;omega⟩) (fun x hx=>⟨by have:=(oa1 x hx).q.mv;omega,by have:=(oa1 x hx).q.gl;omega⟩)
 have s2:=rsameAll_sat Bq Bq (by omega) (by omega) (fun x hx=>⟨by have:=(ob1 x hx).q.mv;omega,by have:=(ob1 x hx).q.gl;omega⟩) (fun x hx=>⟨by have:=(ob1 x hx).q.mv;omega,by have:=(ob1 x hx).q.gl;omega⟩)
 rw[decide_eq_true rfl] at s1 s2
 have haw:=awake_sat
 clear hA hB hAB fA fB fC pC oa1 ob1 cA cB
 refine uFN Tryz.func5 Tryz.ntmps5 ?_;intro w e X hC
 refine uA ?_
 refine uR ?_;intro K hK
 refine callE [] [(123,3,100,1)] false (hnew) uTR uTR uTE uTE uTE uTE uTE uTE uTE uTE uTE uTE uTE uTE uTE uTE uTE ?_;refine uQS ?_
 refine hK _ ?_;clear hK K
 refine awp_weak (s':=⟨[(1,S (strOf text)),(5, .ptO 123 3 0 0 0)],(123,some (3, .box [IS l',I (min 0 l'.length:Nat)]))::[],_⟩) (.of (Nat.le_refl _) (uHF1 (uI @Nat.zero_min @Int.natCast_zero)) uWF) ?_
 refine uR ?_;intro K hK
 refine callL rfl (ga) uTS uTS uTS uTS uTS ?_;refine uS ?_
 refine uH ?_
 refine callL rfl (gb) uTS uTS uTS uTS uTS ?_;refine uS ?_
 refine hK _ ?_;clear hK K
 refine uR ?_;intro K hK
 refine uH ?_
 refine callF uTS (g1) uTS uTS uTS ?_;refine uS ?_
 refine hK _ ?_;clear hK K
 refine uR ?_;intro K hK
 refine uH ?_
 refine callF uTS (g2) uTS uTS uTS ?_;refine uS ?_
 refine hK _ ?_;clear hK K
 refine awp_seq ?_
 refine awp_merge (fun q:Nat=>⟨[(1,S (strOf text)),(6, .sl (acts A) false),(7, .sl (acts Bq) false),(8,S (strOf tA)),(9,I 0),(10,S (strOf tB)),(11,I 0),(12,S (strOf (tA++tB))),(13,I 0)],[],q⟩) (fun _=>True) ?_ ?_
 ·have hnk:(∀y∈acts A,∀c∈y.cells,c.noKid=true)=True:=by
   refine eq_true fun y hy c hc=>?_
   have:=of_eq_true (PE_acts A) y hy c hc
   cases c<;>first|exact this.elim|rfl
  have ht:(acts A).take A.length=acts A:=by rw[List.take_of_length_le (by rw[acts_length];exact Nat.le_refl _)]
  have hla:(acts A).length=A.length:=acts_length _
  have hlb:(acts Bq).length=Bq.length:=acts_length _
  have happ:acts A++acts Bq=acts (A++Bq):=by simp[acts]
  by_cases hA0:A.length=0
  ·have hA1:A=[]:=List.eq_nil_of_length_eq_zero hA0
   subst hA1
   rw[List.nil_append] at g3
   refine uR1 @acts_nil ?_;intro K hK
   refine uH ?_
   refine callE [] [] true (g3) uTR uTR uTE uTE uTE uTE uTE uTE uTE uTE uTE uTE uTE uTE uTE uTE uTE ?_;refine uQS ?_
   refine hK _ ?_;clear hK K
   refine uW ?_
   refine⟨_,trivial,uKF⟩
  ·by_cases hB0:Bq.length=0
   ·have hB1:Bq=[]:=List.eq_nil_of_length_eq_zero hB0
    subst hB1
    rw[List.append_nil] at g3
    refine uR1 (uI @ht (uI @hla (uI @hA0 @acts_nil))) ?_;intro K hK
    refine uH ?_
    refine callF uTS (g3) uTS uTS uTS ?_;refine uS ?_
    refine hK _ ?_;clear hK K
    refine uW ?_
    refine⟨_,trivial, .of (Nat.le_refl _) uHF (uWF1 @acts_nil)⟩
   ·have hlc:(acts (A++Bq)).length=A.length+Bq.length:=by rw[acts_length,List.length_append]
    refine uR1 (uI @ht (uI @hla (uI @hA0 (uI @hlb (uI @hB0 (uI @happ @hnk)))))) ?_;intro K hK
    refine uH ?_
    have z:=@hlc;refine callE [] [] true (g3) (uTR1 z) (uTR1 z) (uTE1 z) (uTE1 z) (uTE1 z) (uTE1 z) (uTE1 z) (uTE1 z) (uTE1 z) (uTE1 z) (uTE1 z) (uTE1 z) (uTE1 z) (uTE1 z) (uTE1 z) (uTE1 z) (uTE1 z) ?_;refine uQS1 z ?_;clear z
    refine hK _ ?_;clear hK K
    refine uW ?_
    refine⟨_,trivial,uKF⟩
 intro ck _
 have m1:(if(A.length:Int)<((A.length+Bq.length:Nat):Int) then(A.length:Int) else((A.length+Bq.length:Nat):Int))=A.length:=by
  split<;>omega
 have ta:=acts_takeA (a:=A) (b:=Bq)
 have td:=acts_dropA (a:=A) (b:=Bq)
 refine uR ?_;intro K hK
 refine uH ?_
 refine callP uTS (g4) uTS uTS uTS ?_;refine uS ?_
 refine uH ?_
 refine hK _ ?_;clear hK K
 refine uR1 (uI @m1 (uI @ta @td)) ?_;intro K hK
 refine uH ?_
 refine callF uTS (s1) uTS uTS uTS ?_;refine uS ?_
 try simp only[go_sem,Nat.reduceAdd,Nat.reduceSub,Nat.reduceMul,Nat.reduceLT,Nat.reduceEqDiff,Nat.reduceBEq,Nat.reduceLeDiff,Int.reduceToNat,↓reduceIte,Int.reduceEq,Int.reduceLT,Int.reduceLE,Int.reduceAdd,Int.reduceSub,Int.reduceNeg,reduceCtorEq,m1,ta,td]
 refine uH ?_
 refine callF uTS (s2) uTS uTS uTS ?_;refine uS ?_
 try simp only[go_sem,Nat.reduceAdd,Nat.reduceSub,Nat.reduceMul,Nat.reduceLT,Nat.reduceEqDiff,Nat.reduceBEq,Nat.reduceLeDiff,Int.reduceToNat,↓reduceIte,Int.reduceEq,Int.reduceLT,Int.reduceLE,Int.reduceAdd,Int.reduceSub,Int.reduceNeg,reduceCtorEq,m1,ta,td]
 refine uH ?_
 refine hK _ ?_;clear hK K
 refine uF ?_
 refine awp_skip ?_
 refine awp_seq ?_
 refine awp_merge (fun q:Nat=>⟨[],[],q⟩) (fun _=>True) ?_ ?_
 ·by_cases hx:text.length<=500
  ·have e1:decide ((text.length:Int)<=500)=true:=decide_eq_true (by omega)
   have hcl:text.count 32<=text.length:=List.count_le_length
   have g5:=parse_sat text (by omega) (by omega)
   cases hp:parseTS text with
   |mk d z=>
    obtain⟨k,i⟩:=z
    rw[hp] at g5
    simp only at g5
    by_cases h0:i=0
    ·subst h0
     obtain⟨rfl,hfm⟩:=text_back hp
     have hsm:∀x∈d,SmA x:=by
      unfold parseTS at hp
      split at hp
      ·cases hp
      ·exact parseR_sm (by omega) (by omega) (fun x hx=>by cases hx) hp
     have hdl:d.length<=500:=by
      unfold formatS at hfm
      split at hfm
      ·cases hfm
      ·omega
     have g6:=format_sat d (by omega) hsm
     rw[hfm] at g6
     simp only at g6
     repeat refine uA1 @e1 ?_
     refine uT ?_
     refine uR ?_;intro K hK
     refine uH ?_
     refine callP uTS (g5) uTS uTS uTS ?_;refine uS ?_
     refine uH ?_
     refine hK _ ?_;clear hK K
     repeat refine uA ?_
     refine uT ?_
     refine uR ?_;intro K hK
     refine uH ?_
     refine callF uTS (g6) uTS uTS uTS ?_;refine uS ?_
     refine hK _ ?_;clear hK K
     repeat refine uA ?_
     refine uF ?_
     refine uW ?_
     refine⟨_,trivial,uKF⟩
    ·have e2:decide (i=0)=false:=decide_eq_false h0
     repeat refine uA1 @e1 ?_
     refine uT ?_
     refine uR ?_;intro K hK
     refine uH ?_
     refine callP uTS (g5) uTS uTS uTS ?_;refine uS ?_
     refine uH ?_
     refine hK _ ?_;clear hK K
     repeat refine uA1 @e2 ?_
     refine uF ?_
     refine uW ?_
     refine⟨_,trivial,uKF⟩
  ·have e1:decide ((text.length:Int)<=500)=false:=decide_eq_false (by omega)
   repeat refine uA1 @e1 ?_
   refine uF ?_
   refine uW ?_
   refine⟨_,trivial,uKF⟩
 intro ck2 _
 refine uR ?_;intro K hK
 refine uH ?_
 refine callF uTS (haw) uTS uTS uTS ?_;refine uS ?_
 refine hK _ ?_;clear hK K
 (refine awp_ret (ret1 uRT ?_);try rfl)
open Go.Deep Go.ChangeShapes Go.WideShapes Go.ChangeAt Go.RowKit Go.Scr
theorem str_back (s:ByteArray):strOf s.data.toList=s:=by
 cases s;rfl
section
variable {H:Type} {enc:TypeId×Value->H} {W:World}
variable {v:Value} {d:DataW H} {ps:List MemPlace}
set_option maxRecDepth 100000 in
theorem arg_bs (hval:Value.okWide Tryz.prog W .any 0 9 v) (hd:DataW.Trod enc Tryz.prog W 0 (fun _=>true) true 9 v d ps):∃s:Bs,s.length<=9223372036854775807/\VD W (UE env0) (S (strOf s)) v:=by
 obtain⟨s,rfl,_,hs⟩:=Go.ChangeMaps.open_string Tryz.underlying9 hval hd
 refine⟨s.data.toList,?_,by rw[str_back];exact .lit _ rfl⟩
 have:s.data.toList.length=s.size:=rfl
 rw[this]
 unfold maxLen at hs
 omega
end
end Go.Proofs.YtokkbonoplbiaaaGreatDoor
