/- Lemmas towards scriptLines_card: no conditions of their own beyond those that each one states. -/
import Derived.Test.YtokkbonoplbiaaaGreatDoorA8
set_option linter.all false
set_option linter.unusedSimpArgs false
set_option linter.unusedVariables false
set_option linter.deprecated false
namespace Go.Proofs.YtokkbonoplbiaaaGreatDoor
open Go Go.Sym
open Go.Scr
def accL:List Bs->Bool->List Flaw->List Flaw->Bool->List Flaw×List Flaw×Bool
 |[],_,m,g,l=>(m,g,l)
 |x::r,f,m,g,l=>if f=true/\x=sLost then accL r false m g true else if(rfault x).k<=2 then accL r false (m++[rfault x]) g l else accL r false m (g++[rfault x]) l
theorem accL_no:∀(ws:List Bs) (m g:List Flaw) (l:Bool),accL ws false m g l=(m++lowF (ws.map rfault),g++highF (ws.map rfault),l)
 |[],m,g,l=>by simp[accL,lowF,highF]
 |x::r,m,g,l=>by
  rw[accL,if_neg (by simp)]
  by_cases h:(rfault x).k<=2
  ·rw[if_pos h,accL_no r]
   simp[lowF,highF,h]
  ·rw[if_neg h,accL_no r]
   simp[lowF,highF,h]
theorem gTick_acc (ws:List Bs):gTick ws={A0 1 with mv:=(accL ws true [] [] false).1,gl:=(accL ws true [] [] false).2.1,lost:=(accL ws true [] [] false).2.2}:=by
 cases ws with
 |nil=>rfl
 |cons x r=>
  unfold gTick
  by_cases h:x=sLost
  ·rw[if_pos (by rw[h];rfl),accL,if_pos ⟨rfl,h⟩,accL_no]
   rfl
  ·rw[if_neg (by simpa using h),accL,if_neg (fun h'=>h h'.2)]
   by_cases h2:(rfault x).k<=2
   ·rw[if_pos h2,accL_no]
    simp[lowF,highF,h2,A0]
   ·rw[if_neg h2,accL_no]
    simp[lowF,highF,h2,A0]
theorem drop_getD {w:List Bs} {i:Nat} (h:i<w.length):w.drop i=w.getD i []::w.drop (i+1):=by
 rw[List.drop_eq_getElem_cons h,List.getD_eq_getElem?_getD,List.getElem?_eq_getElem h];rfl
set_option maxHeartbeats 4000000 in
theorem rguess_sat (s:Bs) (hs:s.length<=900000):SatG Tryz.prog tab 45 [] [S (strOf s)] [] (guessS s).av:=by
 unfold guessS
 have gs:=rsplit_sat s 32 (by omega)
 have hlen:=splitL_len 32 s
 have hcnt:=splitL_length 32 s
 have hcl:s.count 32<=s.length:=List.count_le_length
 have hne:=splitL_ne 32 s
 generalize splitL 32 s=wl at*
 have hw0:0<wl.length:=List.length_pos_iff.2 hne
 have hg:∀i,(wl.getD i []).length<=1000000:=fun i=>by
  by_cases h:i<wl.length
  ·have:=hlen (wl.getD i []) (by rw[List.getD_eq_getElem?_getD,List.getElem?_eq_getElem h];exact List.getElem_mem h)
   omega
  ·rw[List.getD_eq_getElem?_getD,List.getElem?_eq_none (by omega)];exact Nat.zero_le _
 have a1:=rat_sat wl 1 (by omega) (by decide)
 have a2:=rat_sat wl 2 (by omega) (by decide)
 have a3:=rat_sat wl 3 (by omega) (by decide)
 have a4:=rat_sat wl 4 (by omega) (by decide)
 have p1:=rpparse_sat (wl.getD 1 []) (hg 1)
 have p2:=rpparse_sat (wl.getD 2 []) (hg 2)
 have f1:=rfparse_sat (wl.getD 1 []) (hg 1)
 have v1:=rnum_sat (wl.getD 1 []) (hg 1)
 have v2:=rnum_sat (wl.getD 2 []) (hg 2)
 have v3:=rnum_sat (wl.getD 3 []) (hg 3)
 have v4:=rnum_sat (wl.getD 4 []) (hg 4)
 refine uFN Tryz.func45 Tryz.ntmps45 ?_;intro w e X hC
 repeat refine uA ?_
 refine uR ?_;intro K hK
 refine uH ?_
 refine callP uTS (gs) uTS uTS uTS ?_;refine uS ?_
 refine uH ?_
 refine hK _ ?_;clear hK K
 refine uR ?_;intro K hK
 refine uH ?_
 refine callF uTS (a1) uTS uTS uTS ?_;refine uS ?_
 refine uH ?_
 refine callF uTS (p1) uTS uTS uTS ?_;refine uS ?_
 refine uH ?_
 refine hK _ ?_;clear hK K
 refine uR ?_;intro K hK
 refine uH ?_
 refine callF uTS (a2) uTS uTS uTS ?_;refine uS ?_
 refine uH ?_
 refine callF uTS (p2) uTS uTS uTS ?_;refine uS ?_
 refine uH ?_
 refine hK _ ?_;clear hK K
 refine uR ?_;intro K hK
 refine uH ?_
 refine callF uTS (a1) uTS uTS uTS ?_;refine uS ?_
 refine uH ?_
 refine callF uTS (f1) uTS uTS uTS ?_;refine uS ?_
 refine uH ?_
 refine hK _ ?_;clear hK K
 refine uR ?_;intro K hK
 refine uH ?_
 refine callF uTS (a1) uTS uTS uTS ?_;refine uS ?_
 refine uH ?_
 refine callF uTS (v1) uTS uTS uTS ?_;refine uS ?_
 refine uH ?_
 refine callF uTS (a2) uTS uTS uTS ?_;refine uS ?_
 refine uH ?_
 refine callF uTS (v2) uTS uTS uTS ?_;refine uS ?_
 refine uH ?_
 refine callF uTS (a3) uTS uTS uTS ?_;refine uS ?_
 refine uH ?_
 refine callF uTS (v3) uTS uTS uTS ?_;refine uS ?_
 refine uH ?_
 refine callF uTS (a4) uTS uTS uTS ?_;refine uS ?_
 refine uH ?_
 refine callF uTS (v4) uTS uTS uTS ?_;refine uS ?_
 refine uH ?_
 refine hK _ ?_;clear hK K
 refine uA1 (strs_getD hw0) ?_
 generalize hu:wl.getD 0 []=u at*
 refine awp_weak (s':=⟨[(0,S (strOf s)),(2, .ptO 102 1 0 0 0),(3, .sl (strs wl) false),(4, .ptO 104 11 0 0 0),(6, .ptO 106 20 0 0 0),(8, .ptO 108 29 0 0 0),(10,I (rval (wl.getD 1 []))),(11,I (rval (wl.getD 2 []))),(12,I (rval (wl.getD 3 []))),(13,I (rval (wl.getD 4 []))),(51,S (strOf u))],[(102,some (1, .box [I 0, .sl [] true, .sl [] true,B false,I 0,I 0,I 0,I 0,I 0,B false, .lit (.string .empty),I 0,I 0, .lit (.string .empty),I 0, .lit (.string .empty),I 0,I 0,I 0, .lit (.string .empty),I 0, .lit (.string .empty),I 0])),(104,some (11, .box [I (pltParse (wl.getD 1 [])).1.l,I (pltParse (wl.getD 1 [])).1.a,I (pltParse (wl.getD 1 [])).1.s])),(106,some (20, .box [I (pltParse (wl.getD 2 [])).1.l,I (pltParse (wl.getD 2 [])).1.a,I (pltParse (wl.getD 2 [])).1.s])),(108,some (29, .box [S (strOf (fltParse (wl.getD 1 [])).1.car),I (fltParse (wl.getD 1 [])).1.num,S (strOf (fltParse (wl.getD 1 [])).1.suf),I (fltParse (wl.getD 1 [])).1.day]))],_⟩) (uKF) ?_
 by_cases q1:u=sTick
 ·have d1:decide (u=[116,105,99,107])=true:=decide_eq_true q1
  have hn:wordN (wl.getD 0 [])=1:=by rw[hu,q1];exact wordN_1
  have hT:guessW s wl=gTick (wl.drop 1):=by simp only[guessW,hn]
  rw[hT]
  rw[gTick_acc]
  generalize hT2:accL (wl.drop 1) true [] [] false=T
  repeat first|refine uC ?_|refine uA1 @d1 ?_
  refine awp_nil0 401 114 54 79 3 1 (by decide) rfl rfl rfl ?_
  refine awp_nil0 402 114 54 79 3 2 (by decide) rfl rfl rfl ?_
  refine uW ?_
  refine awp_loopW (fun i:Nat×Nat×Nat×Nat×List Flaw×List Flaw×Bool=>⟨[(2, .ptO 102 1 0 0 0),(3, .sl (strs wl) false),(14, .ptO 114 54 0 0 0),(15,I i.2.2.2.1)],[(114,some (54, .box [I 1, .slO 401 i.2.1 0 i.2.2.2.2.1.length, .slO 402 i.2.2.1 0 i.2.2.2.2.2.1.length,B i.2.2.2.2.2.2,I 0,I 0,I 0,I 0,I 0,B false, .lit (.string .empty),I 0,I 0, .lit (.string .empty),I 0, .lit (.string .empty),I 0,I 0,I 0, .lit (.string .empty),I 0, .lit (.string .empty),I 0])),(401,some (i.2.1, .own 79 3 (flaws i.2.2.2.2.1))),(402,some (i.2.2.1, .own 79 3 (flaws i.2.2.2.2.2.1))),(102,some (1, .box [I 0, .sl [] true, .sl [] true,B false,I 0,I 0,I 0,I 0,I 0,B false, .lit (.string .empty),I 0,I 0, .lit (.string .empty),I 0, .lit (.string .empty),I 0,I 0,I 0, .lit (.string .empty),I 0, .lit (.string .empty),I 0]))],i.1⟩)
   (fun i=>1<=i.2.2.2.1/\i.2.2.2.1<=wl.length/\i.2.2.2.2.1.length+i.2.2.2.2.2.1.length<=i.2.2.2.1/\accL (wl.drop i.2.2.2.1) (decide (i.2.2.2.1=1)) i.2.2.2.2.1 i.2.2.2.2.2.1 i.2.2.2.2.2.2=T) (fun i=>wl.length - i.2.2.2.1) (_,57,58,1,[],[],false) ⟨Nat.le_refl _,hw0,Nat.zero_le _,hT2⟩ (uKF) ?_
  rintro⟨ck,ga,gb,i,m,g,l⟩ ⟨h1,h2,h3,h4⟩
  simp only at h1 h2 h3 h4
  refine uA ?_
  refine uW ?_;refine condP _ rfl (fun h=>?_) (fun h=>?_)
  ·have hlt:i<wl.length:=by omega
   have hwi:(strs wl).getD i .bad=S (strOf (wl.getD i [])):=strs_getD hlt
   have hf:=rfault_sat (wl.getD i []) (hg i)
   have hdr:=drop_getD hlt
   have hwl:wl.length<=1000000:=by omega
   have dn:=uDf (i+1=1)
   rw[hdr,accL] at h4
   clear hdr
   generalize wl.getD i []=x at*
   refine uR1 @hwi ?_;intro K hK
   refine uH ?_
   refine callF uTS (hf) uTS uTS uTS ?_;refine uS ?_
   refine uH ?_
   refine hK _ ?_;clear hK K
   generalize rfault x=f at*
   by_cases hlo:i=1/\x=sLost
   ·obtain⟨hi,hx⟩:=hlo
    rw[if_pos ⟨decide_eq_true hi,hx⟩] at h4
    have e1:=uDt ((i:Int)=1)
    have e2:decide (x=[108,111,115,116])=true:=decide_eq_true hx
    repeat first|refine uC ?_|refine uA1 (uI @e1 (uI @e2 @hwi)) ?_
    refine⟨(_,ga,gb,i+1,m,g,true),⟨by simp only;omega,by simp only;omega,by simp only;omega,by simp only;rw[dn];exact h4⟩,by simp only;omega,uKF⟩
   ·rw[if_neg (fun h'=>hlo ⟨of_decide_eq_true h'.1,h'.2⟩)] at h4
    by_cases hi:i=1
    ·have e1:=uDt ((i:Int)=1)
     have e2:decide (x=[108,111,115,116])=false:=decide_eq_false (fun hx=>hlo ⟨hi,hx⟩)
     by_cases c3:f.k<=2
     ·have e3:decide (f.k<=2)=true:=decide_eq_true c3
      rw[if_pos c3] at h4
      have hml:(m++[(⟨f.k,f.n,f.w⟩:Flaw)]).length=m.length+1:=by simp
      repeat first|refine uC ?_|refine uA1 (uI @e1 (uI @e2 (uI @hwi @e3))) ?_
      refine⟨(_,ga,gb,i+1,m++[⟨f.k,f.n,f.w⟩],g,l),⟨by simp only;omega,by simp only;omega,by simp only[List.length_append,List.length_singleton];omega,by simp only;rw[dn];exact h4⟩,by simp only;omega, .of (Nat.le_refl _) (uHF1 @hml) uWF⟩
     ·have e3:decide (f.k<=2)=false:=decide_eq_false c3
      rw[if_neg c3] at h4
      have hml:(g++[(⟨f.k,f.n,f.w⟩:Flaw)]).length=g.length+1:=by simp
      repeat first|refine uC ?_|refine uA1 (uI @e1 (uI @e2 (uI @hwi @e3))) ?_
      refine⟨(_,ga,gb,i+1,m,g++[⟨f.k,f.n,f.w⟩],l),⟨by simp only;omega,by simp only;omega,by simp only[List.length_append,List.length_singleton];omega,by simp only;rw[dn];exact h4⟩,by simp only;omega, .of (Nat.le_refl _) (uHF1 @hml) uWF⟩
    ·have e1:=uDf ((i:Int)=1)
     by_cases c3:f.k<=2
     ·have e3:decide (f.k<=2)=true:=decide_eq_true c3
      rw[if_pos c3] at h4
      have hml:(m++[(⟨f.k,f.n,f.w⟩:Flaw)]).length=m.length+1:=by simp
      repeat first|refine uC ?_|refine uA1 (uI @e1 @e3) ?_
      refine⟨(_,ga,gb,i+1,m++[⟨f.k,f.n,f.w⟩],g,l),⟨by simp only;omega,by simp only;omega,by simp only[List.length_append,List.length_singleton];omega,by simp only;rw[dn];exact h4⟩,by simp only;omega, .of (Nat.le_refl _) (uHF1 @hml) uWF⟩
     ·have e3:decide (f.k<=2)=false:=decide_eq_false c3
      rw[if_neg c3] at h4
      have hml:(g++[(⟨f.k,f.n,f.w⟩:Flaw)]).length=g.length+1:=by simp
      repeat first|refine uC ?_|refine uA1 (uI @e1 @e3) ?_
      refine⟨(_,ga,gb,i+1,m,g++[⟨f.k,f.n,f.w⟩],l),⟨by simp only;omega,by simp only;omega,by simp only[List.length_append,List.length_singleton];omega,by simp only;rw[dn];exact h4⟩,by simp only;omega, .of (Nat.le_refl _) (uHF1 @hml) uWF⟩
  ·refine awp_exit ?_
   have:i=wl.length:=by omega
   subst this
   rw[List.drop_length,accL] at h4
   rw[<-h4]
   repeat refine uA ?_
   refine awp_ret ?_;rw[show Tryz.f45.results.toList=[.cell 2 30] from rfl];first|refine uRN ?_|exact uRM
   try rfl
 have d1:decide (u=[116,105,99,107])=false:=decide_eq_false q1
 by_cases q2:u=sInduct
 ·have d2:decide (u=[105,110,100,117,99,116])=true:=decide_eq_true q2
  have hn:wordN (wl.getD 0 [])=2:=by rw[hu,q2];exact wordN_2
  have hT:guessW s wl={A0 2 with plt:=(pltParse (wl.getD 1 [])).1,node:=rval (wl.getD 2 [])}:=by simp only[guessW,hn]
  rw[hT]
  repeat first|refine uC ?_|refine uA1 (uI @d1 @d2) ?_
  refine awp_ret ?_;rw[show Tryz.f45.results.toList=[.cell 2 30] from rfl];first|refine uRN ?_|exact uRM
  try rfl
 have d2:decide (u=[105,110,100,117,99,116])=false:=decide_eq_false q2
 by_cases q3:u=sMessage
 ·have d3:decide (u=[109,101,115,115,97,103,101])=true:=decide_eq_true q3
  have hn:wordN (wl.getD 0 [])=3:=by rw[hu,q3];exact wordN_3
  have hT:guessW s wl={A0 3 with txt:=swapB 124 10 (s.drop (min s.length 8))}:=by simp only[guessW,hn]
  rw[hT]
  have m1:(if(8:Int)<(s.length:Int) then(8:Int) else(s.length:Int))=((min s.length 8:Nat):Int):=by split<;>omega
  have g1:=rbars_sat (s.drop (min s.length 8)) 124 10 (by rw[List.length_drop];omega)
  repeat first|refine uC ?_|refine uA1 (uI @d1 (uI @d2 @d3)) ?_
  refine uR1 @m1 ?_;intro K hK
  refine uH ?_
  refine callF uTS (g1) uTS uTS uTS ?_;refine uS ?_
  try refine uS ?_
  refine uH ?_
  refine hK _ ?_;clear hK K
  refine awp_ret ?_;rw[show Tryz.f45.results.toList=[.cell 2 30] from rfl];first|refine uRN ?_|exact uRM
  try rfl
 have d3:decide (u=[109,101,115,115,97,103,101])=false:=decide_eq_false q3
 by_cases q4:u=sVerdict
 ·have d4:decide (u=[118,101,114,100,105,99,116])=true:=decide_eq_true q4
  have hn:wordN (wl.getD 0 [])=4:=by rw[hu,q4];exact wordN_4
  have hT:guessW s wl={A0 4 with img:=rval (wl.getD 1 []),clr:=decide (wl.getD 2 []=sClear)}:=by simp only[guessW,hn]
  rw[hT]
  repeat first|refine uC ?_|refine uA1 (uI @d1 (uI @d2 (uI @d3 @d4))) ?_
  refine uR ?_;intro K hK
  refine uH ?_
  refine callF uTS (a2) uTS uTS uTS ?_;refine uS ?_
  try refine uS ?_
  refine uH ?_
  refine hK _ ?_;clear hK K
  refine awp_ret ?_;rw[show Tryz.f45.results.toList=[.cell 2 30] from rfl];first|refine uRN ?_|exact uRM
  try rfl
 have d4:decide (u=[118,101,114,100,105,99,116])=false:=decide_eq_false q4
 by_cases q5:u=(revN 1)
 ·have d5:decide (u=[100,101,108,97,121])=true:=decide_eq_true q5
  have hn:wordN (wl.getD 0 [])=5:=by rw[hu,q5];exact wordN_5
  have hT:guessW s wl={A0 5 with rev:=⟨1,rval (wl.getD 2 []),(fltParse (wl.getD 1 [])).1⟩}:=by simp only[guessW,hn]
  rw[hT]
  repeat first|refine uC ?_|refine uA1 (uI @d1 (uI @d2 (uI @d3 (uI @d4 @d5)))) ?_
  refine awp_ret ?_;rw[show Tryz.f45.results.toList=[.cell 2 30] from rfl];first|refine uRN ?_|exact uRM
  try rfl
 have d5:decide (u=[100,101,108,97,121])=false:=decide_eq_false q5
 by_cases q6:u=(revN 2)
 ·have d6:decide (u=[111,112,101,110,115])=true:=decide_eq_true q6
  have hn:wordN (wl.getD 0 [])=6:=by rw[hu,q6];exact wordN_6
  have hT:guessW s wl={A0 5 with rev:=⟨2,rval (wl.getD 2 []),(fltParse (wl.getD 1 [])).1⟩}:=by simp only[guessW,hn]
  rw[hT]
  repeat first|refine uC ?_|refine uA1 (uI @d1 (uI @d2 (uI @d3 (uI @d4 (uI @d5 @d6))))) ?_
  refine awp_ret ?_;rw[show Tryz.f45.results.toList=[.cell 2 30] from rfl];first|refine uRN ?_|exact uRM
  try rfl
 have d6:decide (u=[111,112,101,110,115])=false:=decide_eq_false q6
 by_cases q7:u=(revN 3)
 ·have d7:decide (u=[115,116,97,110,100])=true:=decide_eq_true q7
  have hn:wordN (wl.getD 0 [])=7:=by rw[hu,q7];exact wordN_7
  have hT:guessW s wl={A0 5 with rev:=⟨3,rval (wl.getD 2 []),(fltParse (wl.getD 1 [])).1⟩}:=by simp only[guessW,hn]
  rw[hT]
  repeat first|refine uC ?_|refine uA1 (uI @d1 (uI @d2 (uI @d3 (uI @d4 (uI @d5 (uI @d6 @d7)))))) ?_
  refine awp_ret ?_;rw[show Tryz.f45.results.toList=[.cell 2 30] from rfl];first|refine uRN ?_|exact uRM
  try rfl
 have d7:decide (u=[115,116,97,110,100])=false:=decide_eq_false q7
 by_cases q8:u=(revN 4)
 ·have d8:decide (u=[99,97,110,99,101,108])=true:=decide_eq_true q8
  have hn:wordN (wl.getD 0 [])=8:=by rw[hu,q8];exact wordN_8
  have hT:guessW s wl={A0 5 with rev:=⟨4,0,(fltParse (wl.getD 1 [])).1⟩}:=by simp only[guessW,hn]
  rw[hT]
  repeat first|refine uC ?_|refine uA1 (uI @d1 (uI @d2 (uI @d3 (uI @d4 (uI @d5 (uI @d6 (uI @d7 @d8))))))) ?_
  refine awp_ret ?_;rw[show Tryz.f45.results.toList=[.cell 2 30] from rfl];first|refine uRN ?_|exact uRM
  try rfl
 have d8:decide (u=[99,97,110,99,101,108])=false:=decide_eq_false q8
 by_cases q9:u=(revN 5)
 ·have d9:decide (u=[114,101,115,116,111,114,101])=true:=decide_eq_true q9
  have hn:wordN (wl.getD 0 [])=9:=by rw[hu,q9];exact wordN_9
  have hT:guessW s wl={A0 5 with rev:=⟨5,0,(fltParse (wl.getD 1 [])).1⟩}:=by simp only[guessW,hn]
  rw[hT]
  repeat first|refine uC ?_|refine uA1 (uI @d1 (uI @d2 (uI @d3 (uI @d4 (uI @d5 (uI @d6 (uI @d7 (uI @d8 @d9)))))))) ?_
  refine awp_ret ?_;rw[show Tryz.f45.results.toList=[.cell 2 30] from rfl];first|refine uRN ?_|exact uRM
  try rfl
 have d9:decide (u=[114,101,115,116,111,114,101])=false:=decide_eq_false q9
 by_cases q10:u=sBreak
 ·have d10:decide (u=[98,114,101,97,107])=true:=decide_eq_true q10
  have hn:wordN (wl.getD 0 [])=10:=by rw[hu,q10];exact wordN_10
  have hT:guessW s wl={A0 6 with node:=rval (wl.getD 1 [])}:=by simp only[guessW,hn]
  rw[hT]
  repeat first|refine uC ?_|refine uA1 (uI @d1 (uI @d2 (uI @d3 (uI @d4 (uI @d5 (uI @d6 (uI @d7 (uI @d8 (uI @d9 @d10))))))))) ?_
  refine awp_ret ?_;rw[show Tryz.f45.results.toList=[.cell 2 30] from rfl];first|refine uRN ?_|exact uRM
  try rfl
 have d10:decide (u=[98,114,101,97,107])=false:=decide_eq_false q10
 by_cases q11:u=sRepair
 ·have d11:decide (u=[114,101,112,97,105,114])=true:=decide_eq_true q11
  have hn:wordN (wl.getD 0 [])=11:=by rw[hu,q11];exact wordN_11
  have hT:guessW s wl={A0 7 with node:=rval (wl.getD 1 [])}:=by simp only[guessW,hn]
  rw[hT]
  repeat first|refine uC ?_|refine uA1 (uI @d1 (uI @d2 (uI @d3 (uI @d4 (uI @d5 (uI @d6 (uI @d7 (uI @d8 (uI @d9 (uI @d10 @d11)))))))))) ?_
  refine awp_ret ?_;rw[show Tryz.f45.results.toList=[.cell 2 30] from rfl];first|refine uRN ?_|exact uRM
  try rfl
 have d11:decide (u=[114,101,112,97,105,114])=false:=decide_eq_false q11
 by_cases q12:u=sLoad
 ·have d12:decide (u=[108,111,97,100])=true:=decide_eq_true q12
  have hn:wordN (wl.getD 0 [])=12:=by rw[hu,q12];exact wordN_12
  have hT:guessW s wl={A0 8 with dev:=rval (wl.getD 1 []),plt:=(pltParse (wl.getD 2 [])).1,node:=rval (wl.getD 3 []),con:=rval (wl.getD 4 [])}:=by simp only[guessW,hn]
  rw[hT]
  repeat first|refine uC ?_|refine uA1 (uI @d1 (uI @d2 (uI @d3 (uI @d4 (uI @d5 (uI @d6 (uI @d7 (uI @d8 (uI @d9 (uI @d10 (uI @d11 @d12))))))))))) ?_
  refine awp_ret ?_;rw[show Tryz.f45.results.toList=[.cell 2 30] from rfl];first|refine uRN ?_|exact uRM
  try rfl
 have d12:decide (u=[108,111,97,100])=false:=decide_eq_false q12
 by_cases q13:u=sUnload
 ·have d13:decide (u=[117,110,108,111,97,100])=true:=decide_eq_true q13
  have hn:wordN (wl.getD 0 [])=13:=by rw[hu,q13];exact wordN_13
  have hT:guessW s wl={A0 9 with dev:=rval (wl.getD 1 []),plt:=(pltParse (wl.getD 2 [])).1,con:=rval (wl.getD 3 [])}:=by simp only[guessW,hn]
  rw[hT]
  repeat first|refine uC ?_|refine uA1 (uI @d1 (uI @d2 (uI @d3 (uI @d4 (uI @d5 (uI @d6 (uI @d7 (uI @d8 (uI @d9 (uI @d10 (uI @d11 (uI @d12 @d13)))))))))))) ?_
  refine awp_ret ?_;rw[show Tryz.f45.results.toList=[.cell 2 30] from rfl];first|refine uRN ?_|exact uRM
  try rfl
 have d13:decide (u=[117,110,108,111,97,100])=false:=decide_eq_false q13
 by_cases q14:u=sPick
 ·have d14:decide (u=[112,105,99,107])=true:=decide_eq_true q14
  have hn:wordN (wl.getD 0 [])=14:=by rw[hu,q14];exact wordN_14
  have hT:guessW s wl={A0 10 with plt:=(pltParse (wl.getD 1 [])).1,node:=rval (wl.getD 2 [])}:=by simp only[guessW,hn]
  rw[hT]
  repeat first|refine uC ?_|refine uA1 (uI @d1 (uI @d2 (uI @d3 (uI @d4 (uI @d5 (uI @d6 (uI @d7 (uI @d8 (uI @d9 (uI @d10 (uI @d11 (uI @d12 (uI @d13 @d14))))))))))))) ?_
  refine awp_ret ?_;rw[show Tryz.f45.results.toList=[.cell 2 30] from rfl];first|refine uRN ?_|exact uRM
  try rfl
 have d14:decide (u=[112,105,99,107])=false:=decide_eq_false q14
 by_cases q15:u=sOffline
 ·have d15:decide (u=[111,102,102,108,105,110,101])=true:=decide_eq_true q15
  have hn:wordN (wl.getD 0 [])=15:=by rw[hu,q15];exact wordN_15
  have hT:guessW s wl={A0 11 with dev:=rval (wl.getD 1 [])}:=by simp only[guessW,hn]
  rw[hT]
  repeat first|refine uC ?_|refine uA1 (uI @d1 (uI @d2 (uI @d3 (uI @d4 (uI @d5 (uI @d6 (uI @d7 (uI @d8 (uI @d9 (uI @d10 (uI @d11 (uI @d12 (uI @d13 (uI @d14 @d15)))))))))))))) ?_
  refine awp_ret ?_;rw[show Tryz.f45.results.toList=[.cell 2 30] from rfl];first|refine uRN ?_|exact uRM
  try rfl
 have d15:decide (u=[111,102,102,108,105,110,101])=false:=decide_eq_false q15
 by_cases q16:u=sOnline
 ·have d16:decide (u=[111,110,108,105,110,101])=true:=decide_eq_true q16
  have hn:wordN (wl.getD 0 [])=16:=by rw[hu,q16];exact wordN_16
  have hT:guessW s wl={A0 12 with dev:=rval (wl.getD 1 [])}:=by simp only[guessW,hn]
  rw[hT]
  repeat first|refine uC ?_|refine uA1 (uI @d1 (uI @d2 (uI @d3 (uI @d4 (uI @d5 (uI @d6 (uI @d7 (uI @d8 (uI @d9 (uI @d10 (uI @d11 (uI @d12 (uI @d13 (uI @d14 (uI @d15 @d16))))))))))))))) ?_
  refine awp_ret ?_;rw[show Tryz.f45.results.toList=[.cell 2 30] from rfl];first|refine uRN ?_|exact uRM
  try rfl
 have d16:decide (u=[111,110,108,105,110,101])=false:=decide_eq_false q16
 by_cases q17:u=sDepart
 ·have d17:decide (u=[100,101,112,97,114,116])=true:=decide_eq_true q17
  have hn:wordN (wl.getD 0 [])=17:=by rw[hu,q17];exact wordN_17
  have hT:guessW s wl={A0 13 with flt:=(fltParse (wl.getD 1 [])).1}:=by simp only[guessW,hn]
  rw[hT]
  repeat first|refine uC ?_|refine uA1 (uI @d1 (uI @d2 (uI @d3 (uI @d4 (uI @d5 (uI @d6 (uI @d7 (uI @d8 (uI @d9 (uI @d10 (uI @d11 (uI @d12 (uI @d13 (uI @d14 (uI @d15 (uI @d16 @d17)))))))))))))))) ?_
  refine awp_ret ?_;rw[show Tryz.f45.results.toList=[.cell 2 30] from rfl];first|refine uRN ?_|exact uRM
  try rfl
 have d17:decide (u=[100,101,112,97,114,116])=false:=decide_eq_false q17
 by_cases q18:u=sCrash
 ·have d18:decide (u=[99,114,97,115,104])=true:=decide_eq_true q18
  have hn:wordN (wl.getD 0 [])=18:=by rw[hu,q18];exact wordN_18
  have hT:guessW s wl=A0 14:=by simp only[guessW,hn]
  rw[hT]
  repeat first|refine uC ?_|refine uA1 (uI @d1 (uI @d2 (uI @d3 (uI @d4 (uI @d5 (uI @d6 (uI @d7 (uI @d8 (uI @d9 (uI @d10 (uI @d11 (uI @d12 (uI @d13 (uI @d14 (uI @d15 (uI @d16 (uI @d17 @d18))))))))))))))))) ?_
  refine awp_ret ?_;rw[show Tryz.f45.results.toList=[.cell 2 30] from rfl];first|refine uRN ?_|exact uRM
  try rfl
 have d18:decide (u=[99,114,97,115,104])=false:=decide_eq_false q18
 have hn:wordN (wl.getD 0 [])=0:=by
  rw[hu];unfold wordN
  rw[if_neg q1,if_neg q2,if_neg q3,if_neg q4,if_neg q5,if_neg q6,if_neg q7,if_neg q8,if_neg q9,if_neg q10,if_neg q11,if_neg q12,if_neg q13,if_neg q14,if_neg q15,if_neg q16,if_neg q17,if_neg q18]
 have hT:guessW s wl=A0 0:=by simp only[guessW,hn]
 rw[hT]
 repeat first|refine uC ?_|refine uA1 (uI @d1 (uI @d2 (uI @d3 (uI @d4 (uI @d5 (uI @d6 (uI @d7 (uI @d8 (uI @d9 (uI @d10 (uI @d11 (uI @d12 (uI @d13 (uI @d14 (uI @d15 (uI @d16 (uI @d17 @d18))))))))))))))))) ?_
 refine awp_ret ?_;rw[show Tryz.f45.results.toList=[.cell 2 30] from rfl];first|refine uRN ?_|exact uRM
 try rfl
open Go.Scr
theorem rdec_sat (n:Int) (h:numB n=true):SatG Tryz.prog tab 40 [] [I n] [] (S (strOf (decW n))):=by
 have hn:0<=n/\n<=999999:=of_decide_eq_true h
 have e:decW n=Lib.decDigits n.toNat:=by unfold decW;rw[if_pos h]
 have:=decimal_nat 5 n.toNat (by omega) (by decide)
 rw[show((n.toNat:Nat):Int)=n by omega] at this
 rw[e];exact this
theorem wordsL_at {k:Int} (h:1<=k/\k<=6):wordsL.getD (k - 1).toNat []=faultN k:=by
 have:k=1\/k=2\/k=3\/k=4\/k=5\/k=6:=by omega
 rcases this with rfl|rfl|rfl|rfl|rfl|rfl<;>rfl
theorem someB_step {l:List Flaw} {i:Nat} (h:i<l.length):someB (l.take (i+1))=someB (l.take i)++(32::wFault (l.getD i default)):=by
 have:l.take (i+1)=l.take i++[l.getD i default]:=by
  rw[List.take_succ,List.getElem?_eq_getElem h,List.getD_eq_getElem?_getD,List.getElem?_eq_getElem h];rfl
 rw[this,someB_app]
 simp[someB]
theorem someB_len:∀l:List Flaw,(someB l).length<=l.length*21
 |[]=>Nat.le_refl _
 |f::r=>by
  have h1:=someB_len r
  have h2:=wFault_len f
  show(32::wFault f++someB r).length<=_
  simp only[List.length_cons,List.length_append]
  omega
theorem rsome_sat (l:List Flaw) (hl:l.length<=1000) (hall:∀f∈l,(1<=f.k/\f.k<=6)/\numB f.n=true/\numB f.w=true):SatG Tryz.prog tab 39 [] [.sl (flaws l) false] [] (S (strOf (someB l))):=by
 have gw:=rwords_sat
 refine uFN Tryz.func39 Tryz.ntmps39 ?_;intro w e X hC
 repeat refine uA ?_
 refine uW ?_
 refine awp_loopW (fun i:Nat×Nat=>⟨[(0, .sl (flaws l) false),(3,S (strOf (someB (l.take i.2)))),(4,I i.2)],[],i.1⟩) (fun i=>i.2<=l.length) (fun i=>l.length - i.2) (_,0) (Nat.zero_le _) (uKF) ?_
 rintro⟨ck,i⟩ hi
 simp only at hi
 have hsl:=someB_len (l.take i)
 rw[List.length_take,Nat.min_eq_left hi] at hsl
 refine uA ?_
 refine uW ?_;refine condP _ rfl (fun h=>?_) (fun h=>?_)
 ·have hlt:i<l.length:=by omega
  have hm:l.getD i default∈l:=by rw[List.getD_eq_getElem?_getD,List.getElem?_eq_getElem hlt];exact List.getElem_mem hlt
  obtain⟨q1,q2,q3⟩:=hall _ hm
  have st:=someB_step hlt
  have g1:=rdec_sat _ q2
  have g2:=rdec_sat _ q3
  have w1:=wordsL_at q1
  have w2:(strs wordsL).getD ((l.getD i default).k - 1).toNat .bad=S (strOf (faultN (l.getD i default).k)):=by
   rw[strs_getD (by show _<6;omega),w1]
  have w3:(strs wordsL).length=6:=rfl
  have l1:=decW_len (l.getD i default).n
  have l2:=decW_len (l.getD i default).w
  have l3:=faultN_len (l.getD i default).k
  have fe:wFault (l.getD i default)=faultN (l.getD i default).k++[58]++decW (l.getD i default).n++[58]++decW (l.getD i default).w:=rfl
  have fg:=flaws_getD hlt
  generalize l.getD i default=f at*
  refine uD1 (uI @fg (uI @w3 @str_mk)) ?_;intro K hK
  refine uH ?_
  refine callP uTS (gw) uTS uTS uTS ?_;refine uS ?_
  try refine uS1 (uI @fg (uI @w2 (uI @w3 @str_mk))) ?_
  refine uH ?_
  refine callF uTS (g1) uTS uTS uTS ?_;refine uS ?_
  try refine uS1 (uI @fg (uI @w2 (uI @w3 @str_mk))) ?_
  refine uH ?_
  refine callF uTS (g2) uTS uTS uTS ?_;refine uS ?_
  try refine uS1 (uI @fg (uI @w2 (uI @w3 @str_mk))) ?_
  refine uH ?_
  refine hK _ ?_;clear hK K
  have st2:someB (l.take i)++[32]++faultN f.k++[58]++decW f.n++[58]++decW f.w=someB (l.take (i+1)):=by
   rw[st,fe]
   simp
  repeat refine uA ?_
  refine⟨(_,i+1),by simp only;omega,by simp only;omega, .of (Nat.le_refl _) uHF (uWF1 @st2)⟩
 ·refine awp_exit ?_
  have:i=l.length:=by omega
  subst this
  rw[List.take_length]
  repeat refine uA ?_
  (refine awp_ret (ret1 uRT ?_);try rfl)
open Go.Scr
theorem plainA_of {x:Acx} (h:plainA x=true):(1<=x.k/\x.k<=14)/\x=only x/\bodyB x=true:=by
 unfold plainA at h
 simpa only[Bool.and_eq_true,decide_eq_true_eq] using h
theorem bodyB_1 {x:Acx} (h:bodyB x=true) (hk:x.k=1):(∀f∈x.mv,flawB 1 2 f=true)/\∀f∈x.gl,flawB 3 6 f=true:=by
 unfold bodyB at h
 rw[if_pos hk] at h
 simp only[Bool.and_eq_true,List.all_eq_true] at h
 exact h
theorem bodyB_5 {x:Acx} (h:bodyB x=true) (hk:x.k=5):(1<=x.rev.k/\x.rev.k<=5)/\x.rev.flt.ok=true/\numB x.rev.amt=true:=by
 unfold bodyB at h
 rw[if_neg (by omega),if_neg (by omega),if_pos hk] at h
 unfold revB at h
 simp only[Bool.and_eq_true,decide_eq_true_eq] at h
 exact⟨h.1,h.2.1,h.2.2.1⟩
theorem bodyB_n {x:Acx} (h:bodyB x=true) (h1:x.k≠1) (h3:x.k≠3) (h5:x.k≠5) (h13:x.k≠13):numB x.node=true/\numB x.img=true/\numB x.dev=true/\numB x.con=true:=by
 unfold bodyB at h
 rw[if_neg h1,if_neg h3,if_neg h5,if_neg h13] at h
 split at h
 ·simp only[Bool.and_eq_true] at h
  exact nums_of h.2
 ·exact nums_of h
theorem lnB {x:Acx} (hx:SmA x):x.plt.fmt.length<=10/\x.flt.fmt.length<=10/\x.rev.flt.fmt.length<=10/\(decW x.node).length<=6/\(decW x.img).length<=6/\(decW x.dev).length<=6/\(decW x.con).length<=6/\(decW x.rev.amt).length<=6/\(swapB 10 124 x.txt).length=x.txt.length/\x.txt.length<=1000000/\(revN x.rev.k).length<=7/\(someB x.mv).length<=x.mv.length*21/\(someB x.gl).length<=x.gl.length*21/\x.mv.length<=1000/\x.gl.length<=1000:=
 ⟨pfmt_len _,ffmt_len _,ffmt_len _,decW_len _,decW_len _,decW_len _,decW_len _,decW_len _,swapB_length _ _ _,hx.tx,revN_len _,someB_len _,someB_len _,hx.mv,hx.gl⟩
theorem rline_bad (x:Acx) (hx:SmA x) (hp:plainA x=false):SatG Tryz.prog tab 13 [] [x.av] [] (.tup [S (strOf []),I 3]):=by
 have g0:=plain_sat x hx
 rw[hp] at g0
 refine uFN Tryz.func13 Tryz.ntmps13 ?_;intro w e X hC
 repeat refine uA ?_
 refine uR ?_;intro K hK
 refine uH ?_
 refine callF uTS (g0) uTS uTS uTS ?_;refine uS ?_
 refine uH ?_
 refine hK _ ?_;clear hK K
 refine uT ?_
 repeat refine uA ?_
 refine awp_ret ?_;rw[show Tryz.f13.results.toList=[.tmp 2, .tmp 3] from rfl];first|refine uRN ?_|exact uRM
 rfl
theorem rline_2 (x:Acx) (hx:SmA x) (hp:plainA x=true) (hk:x.k=2):SatG Tryz.prog tab 13 [] [x.av] [] (.tup [S (strOf (rlineB x)),I 0]):=by
 have g0:=plain_sat x hx
 rw[hp] at g0
 obtain⟨hk14,ho,hb⟩:=plainA_of hp
 have gp:=rpformat_sat x.plt
 obtain⟨lp,lf,lr,ln,li,ld,lc,la,lx,ht,lk,lm,lg,hm,hg⟩:=lnB hx
 have e1:=uDf (x.k=1)
 have e2:=uDt (x.k=2)
 have e3:=uDf (x.k=3)
 have e4:=uDf (x.k=4)
 have e5:=uDf (x.k=5)
 have e6:=uDf (x.k=6)
 have e7:=uDf (x.k=7)
 have e8:=uDf (x.k=8)
 have e9:=uDf (x.k=9)
 have e10:=uDf (x.k=10)
 have e11:=uDf (x.k=11)
 have e12:=uDf (x.k=12)
 have e13:=uDf (x.k=13)
 obtain⟨n1,n2,n3,n4⟩:=bodyB_n hb (by omega) (by omega) (by omega) (by omega)
 have d1:=rdec_sat _ n1
 have hT:rlineB x=sInduct++32::(x.plt.fmt++32::decW x.node):=by unfold rlineB;rw[if_neg (by omega:¬x.k=1),if_pos hk]
 rw[hT]
 refine uFN Tryz.func13 Tryz.ntmps13 ?_;intro w e X hC
 repeat refine uA ?_
 refine uR ?_;intro K hK
 refine uH ?_
 refine callF uTS (g0) uTS uTS uTS ?_;refine uS ?_
 refine uH ?_
 refine hK _ ?_;clear hK K
 refine uF ?_
 refine uR ?_;intro K hK
 refine uH ?_
 refine callF uTS (gp) uTS uTS uTS ?_;refine uS ?_
 refine uH ?_
 refine hK _ ?_;clear hK K
 repeat first|refine uC ?_|refine uA1 (uI @e1 (uI @e2 (uI @e3 (uI @e4 (uI @e5 (uI @e6 (uI @e7 (uI @e8 (uI @e9 (uI @e10 (uI @e11 (uI @e12 @e13)))))))))))) ?_
 refine uR1 @str_mk ?_;intro K hK
 refine uH ?_
 refine callF uTS (d1) uTS uTS uTS ?_;refine uS ?_
 try refine uS1 @str_mk ?_
 refine uH ?_
 refine hK _ ?_;clear hK K
 refine awp_ret ?_;rw[show Tryz.f13.results.toList=[.tmp 2, .tmp 3] from rfl];first|refine uRN ?_|exact uRM
 try first|rfl|simp[sInduct,sVerdict,sBreak,sRepair,sLoad,sUnload,sPick,sOffline,sOnline,sDepart,sMessage,sClear,sAlarm]
theorem rline_3 (x:Acx) (hx:SmA x) (hp:plainA x=true) (hk:x.k=3):SatG Tryz.prog tab 13 [] [x.av] [] (.tup [S (strOf (rlineB x)),I 0]):=by
 have g0:=plain_sat x hx
 rw[hp] at g0
 obtain⟨hk14,ho,hb⟩:=plainA_of hp
 have gp:=rpformat_sat x.plt
 obtain⟨lp,lf,lr,ln,li,ld,lc,la,lx,ht,lk,lm,lg,hm,hg⟩:=lnB hx
 have e1:=uDf (x.k=1)
 have e2:=uDf (x.k=2)
 have e3:=uDt (x.k=3)
 have e4:=uDf (x.k=4)
 have e5:=uDf (x.k=5)
 have e6:=uDf (x.k=6)
 have e7:=uDf (x.k=7)
 have e8:=uDf (x.k=8)
 have e9:=uDf (x.k=9)
 have e10:=uDf (x.k=10)
 have e11:=uDf (x.k=11)
 have e12:=uDf (x.k=12)
 have e13:=uDf (x.k=13)
 have d1:=rbars_sat x.txt 10 124 hx.tx
 have hT:rlineB x=sMessage++32::swapB 10 124 x.txt:=by unfold rlineB;rw[if_neg (by omega:¬x.k=1),if_neg (by omega:¬x.k=2),if_pos hk]
 rw[hT]
 refine uFN Tryz.func13 Tryz.ntmps13 ?_;intro w e X hC
 repeat refine uA ?_
 refine uR ?_;intro K hK
 refine uH ?_
 refine callF uTS (g0) uTS uTS uTS ?_;refine uS ?_
 refine uH ?_
 refine hK _ ?_;clear hK K
 refine uF ?_
 refine uR ?_;intro K hK
 refine uH ?_
 refine callF uTS (gp) uTS uTS uTS ?_;refine uS ?_
 refine uH ?_
 refine hK _ ?_;clear hK K
 repeat first|refine uC ?_|refine uA1 (uI @e1 (uI @e2 (uI @e3 (uI @e4 (uI @e5 (uI @e6 (uI @e7 (uI @e8 (uI @e9 (uI @e10 (uI @e11 (uI @e12 @e13)))))))))))) ?_
 refine uR1 @str_mk ?_;intro K hK
 refine uH ?_
 refine callF uTS (d1) uTS uTS uTS ?_;refine uS ?_
 try refine uS1 @str_mk ?_
 refine uH ?_
 refine hK _ ?_;clear hK K
 refine awp_ret ?_;rw[show Tryz.f13.results.toList=[.tmp 2, .tmp 3] from rfl];first|refine uRN ?_|exact uRM
 try first|rfl|simp[sInduct,sVerdict,sBreak,sRepair,sLoad,sUnload,sPick,sOffline,sOnline,sDepart,sMessage,sClear,sAlarm]
theorem rline_6 (x:Acx) (hx:SmA x) (hp:plainA x=true) (hk:x.k=6):SatG Tryz.prog tab 13 [] [x.av] [] (.tup [S (strOf (rlineB x)),I 0]):=by
 have g0:=plain_sat x hx
 rw[hp] at g0
 obtain⟨hk14,ho,hb⟩:=plainA_of hp
 have gp:=rpformat_sat x.plt
 obtain⟨lp,lf,lr,ln,li,ld,lc,la,lx,ht,lk,lm,lg,hm,hg⟩:=lnB hx
 have e1:=uDf (x.k=1)
 have e2:=uDf (x.k=2)
 have e3:=uDf (x.k=3)
 have e4:=uDf (x.k=4)
 have e5:=uDf (x.k=5)
 have e6:=uDt (x.k=6)
 have e7:=uDf (x.k=7)
 have e8:=uDf (x.k=8)
 have e9:=uDf (x.k=9)
 have e10:=uDf (x.k=10)
 have e11:=uDf (x.k=11)
 have e12:=uDf (x.k=12)
 have e13:=uDf (x.k=13)
 obtain⟨n1,n2,n3,n4⟩:=bodyB_n hb (by omega) (by omega) (by omega) (by omega)
 have d1:=rdec_sat _ n1
 have hT:rlineB x=sBreak++32::decW x.node:=by unfold rlineB;rw[if_neg (by omega:¬x.k=1),if_neg (by omega:¬x.k=2),if_neg (by omega:¬x.k=3),if_neg (by omega:¬x.k=4),if_neg (by omega:¬x.k=5),if_pos hk]
 rw[hT]
 refine uFN Tryz.func13 Tryz.ntmps13 ?_;intro w e X hC
 repeat refine uA ?_
 refine uR ?_;intro K hK
 refine uH ?_
 refine callF uTS (g0) uTS uTS uTS ?_;refine uS ?_
 refine uH ?_
 refine hK _ ?_;clear hK K
 refine uF ?_
 refine uR ?_;intro K hK
 refine uH ?_
 refine callF uTS (gp) uTS uTS uTS ?_;refine uS ?_
 refine uH ?_
 refine hK _ ?_;clear hK K
 repeat first|refine uC ?_|refine uA1 (uI @e1 (uI @e2 (uI @e3 (uI @e4 (uI @e5 (uI @e6 (uI @e7 (uI @e8 (uI @e9 (uI @e10 (uI @e11 (uI @e12 @e13)))))))))))) ?_
 refine uR1 @str_mk ?_;intro K hK
 refine uH ?_
 refine callF uTS (d1) uTS uTS uTS ?_;refine uS ?_
 try refine uS1 @str_mk ?_
 refine uH ?_
 refine hK _ ?_;clear hK K
 refine awp_ret ?_;rw[show Tryz.f13.results.toList=[.tmp 2, .tmp 3] from rfl];first|refine uRN ?_|exact uRM
 try first|rfl|simp[sInduct,sVerdict,sBreak,sRepair,sLoad,sUnload,sPick,sOffline,sOnline,sDepart,sMessage,sClear,sAlarm]
theorem rline_7 (x:Acx) (hx:SmA x) (hp:plainA x=true) (hk:x.k=7):SatG Tryz.prog tab 13 [] [x.av] [] (.tup [S (strOf (rlineB x)),I 0]):=by
 have g0:=plain_sat x hx
 rw[hp] at g0
 obtain⟨hk14,ho,hb⟩:=plainA_of hp
 have gp:=rpformat_sat x.plt
 obtain⟨lp,lf,lr,ln,li,ld,lc,la,lx,ht,lk,lm,lg,hm,hg⟩:=lnB hx
 have e1:=uDf (x.k=1)
 have e2:=uDf (x.k=2)
 have e3:=uDf (x.k=3)
 have e4:=uDf (x.k=4)
 have e5:=uDf (x.k=5)
 have e6:=uDf (x.k=6)
 have e7:=uDt (x.k=7)
 have e8:=uDf (x.k=8)
 have e9:=uDf (x.k=9)
 have e10:=uDf (x.k=10)
 have e11:=uDf (x.k=11)
 have e12:=uDf (x.k=12)
 have e13:=uDf (x.k=13)
 obtain⟨n1,n2,n3,n4⟩:=bodyB_n hb (by omega) (by omega) (by omega) (by omega)
 have d1:=rdec_sat _ n1
 have hT:rlineB x=sRepair++32::decW x.node:=by unfold rlineB;rw[if_neg (by omega:¬x.k=1),if_neg (by omega:¬x.k=2),if_neg (by omega:¬x.k=3),if_neg (by omega:¬x.k=4),if_neg (by omega:¬x.k=5),if_neg (by omega:¬x.k=6),if_pos hk]
 rw[hT]
 refine uFN Tryz.func13 Tryz.ntmps13 ?_;intro w e X hC
 repeat refine uA ?_
 refine uR ?_;intro K hK
 refine uH ?_
 refine callF uTS (g0) uTS uTS uTS ?_;refine uS ?_
 refine uH ?_
 refine hK _ ?_;clear hK K
 refine uF ?_
 refine uR ?_;intro K hK
 refine uH ?_
 refine callF uTS (gp) uTS uTS uTS ?_;refine uS ?_
 refine uH ?_
 refine hK _ ?_;clear hK K
 repeat first|refine uC ?_|refine uA1 (uI @e1 (uI @e2 (uI @e3 (uI @e4 (uI @e5 (uI @e6 (uI @e7 (uI @e8 (uI @e9 (uI @e10 (uI @e11 (uI @e12 @e13)))))))))))) ?_
 refine uR1 @str_mk ?_;intro K hK
 refine uH ?_
 refine callF uTS (d1) uTS uTS uTS ?_;refine uS ?_
 try refine uS1 @str_mk ?_
 refine uH ?_
 refine hK _ ?_;clear hK K
 refine awp_ret ?_;rw[show Tryz.f13.results.toList=[.tmp 2, .tmp 3] from rfl];first|refine uRN ?_|exact uRM
 try first|rfl|simp[sInduct,sVerdict,sBreak,sRepair,sLoad,sUnload,sPick,sOffline,sOnline,sDepart,sMessage,sClear,sAlarm]
theorem rline_8 (x:Acx) (hx:SmA x) (hp:plainA x=true) (hk:x.k=8):SatG Tryz.prog tab 13 [] [x.av] [] (.tup [S (strOf (rlineB x)),I 0]):=by
 have g0:=plain_sat x hx
 rw[hp] at g0
 obtain⟨hk14,ho,hb⟩:=plainA_of hp
 have gp:=rpformat_sat x.plt
 obtain⟨lp,lf,lr,ln,li,ld,lc,la,lx,ht,lk,lm,lg,hm,hg⟩:=lnB hx
 have e1:=uDf (x.k=1)
 have e2:=uDf (x.k=2)
 have e3:=uDf (x.k=3)
 have e4:=uDf (x.k=4)
 have e5:=uDf (x.k=5)
 have e6:=uDf (x.k=6)
 have e7:=uDf (x.k=7)
 have e8:=uDt (x.k=8)
 have e9:=uDf (x.k=9)
 have e10:=uDf (x.k=10)
 have e11:=uDf (x.k=11)
 have e12:=uDf (x.k=12)
 have e13:=uDf (x.k=13)
 obtain⟨n1,n2,n3,n4⟩:=bodyB_n hb (by omega) (by omega) (by omega) (by omega)
 have d1:=rdec_sat _ n3
 have d2:=rdec_sat _ n1
 have d3:=rdec_sat _ n4
 have hT:rlineB x=sLoad++32::(decW x.dev++32::(x.plt.fmt++32::(decW x.node++32::decW x.con))):=by unfold rlineB;rw[if_neg (by omega:¬x.k=1),if_neg (by omega:¬x.k=2),if_neg (by omega:¬x.k=3),if_neg (by omega:¬x.k=4),if_neg (by omega:¬x.k=5),if_neg (by omega:¬x.k=6),if_neg (by omega:¬x.k=7),if_pos hk]
 rw[hT]
 refine uFN Tryz.func13 Tryz.ntmps13 ?_;intro w e X hC
 repeat refine uA ?_
 refine uR ?_;intro K hK
 refine uH ?_
 refine callF uTS (g0) uTS uTS uTS ?_;refine uS ?_
 refine uH ?_
 refine hK _ ?_;clear hK K
 refine uF ?_
 refine uR ?_;intro K hK
 refine uH ?_
 refine callF uTS (gp) uTS uTS uTS ?_;refine uS ?_
 refine uH ?_
 refine hK _ ?_;clear hK K
 repeat first|refine uC ?_|refine uA1 (uI @e1 (uI @e2 (uI @e3 (uI @e4 (uI @e5 (uI @e6 (uI @e7 (uI @e8 (uI @e9 (uI @e10 (uI @e11 (uI @e12 @e13)))))))))))) ?_
 refine uD1 @str_mk ?_;intro K hK
 refine uH ?_
 refine callF uTS (d1) uTS uTS uTS ?_;refine uS ?_
 try refine uS1 @str_mk ?_
 refine uH ?_
 refine callF uTS (d2) uTS uTS uTS ?_;refine uS ?_
 try refine uS1 @str_mk ?_
 refine uH ?_
 refine callF uTS (d3) uTS uTS uTS ?_;refine uS ?_
 try refine uS1 @str_mk ?_
 refine uH ?_
 refine hK _ ?_;clear hK K
 refine awp_ret ?_;rw[show Tryz.f13.results.toList=[.tmp 2, .tmp 3] from rfl];first|refine uRN ?_|exact uRM
 try first|rfl|simp[sInduct,sVerdict,sBreak,sRepair,sLoad,sUnload,sPick,sOffline,sOnline,sDepart,sMessage,sClear,sAlarm]
theorem rline_9 (x:Acx) (hx:SmA x) (hp:plainA x=true) (hk:x.k=9):SatG Tryz.prog tab 13 [] [x.av] [] (.tup [S (strOf (rlineB x)),I 0]):=by
 have g0:=plain_sat x hx
 rw[hp] at g0
 obtain⟨hk14,ho,hb⟩:=plainA_of hp
 have gp:=rpformat_sat x.plt
 obtain⟨lp,lf,lr,ln,li,ld,lc,la,lx,ht,lk,lm,lg,hm,hg⟩:=lnB hx
 have e1:=uDf (x.k=1)
 have e2:=uDf (x.k=2)
 have e3:=uDf (x.k=3)
 have e4:=uDf (x.k=4)
 have e5:=uDf (x.k=5)
 have e6:=uDf (x.k=6)
 have e7:=uDf (x.k=7)
 have e8:=uDf (x.k=8)
 have e9:=uDt (x.k=9)
 have e10:=uDf (x.k=10)
 have e11:=uDf (x.k=11)
 have e12:=uDf (x.k=12)
 have e13:=uDf (x.k=13)
 obtain⟨n1,n2,n3,n4⟩:=bodyB_n hb (by omega) (by omega) (by omega) (by omega)
 have d1:=rdec_sat _ n3
 have d2:=rdec_sat _ n4
 have hT:rlineB x=sUnload++32::(decW x.dev++32::(x.plt.fmt++32::decW x.con)):=by unfold rlineB;rw[if_neg (by omega:¬x.k=1),if_neg (by omega:¬x.k=2),if_neg (by omega:¬x.k=3),if_neg (by omega:¬x.k=4),if_neg (by omega:¬x.k=5),if_neg (by omega:¬x.k=6),if_neg (by omega:¬x.k=7),if_neg (by omega:¬x.k=8),if_pos hk]
 rw[hT]
 refine uFN Tryz.func13 Tryz.ntmps13 ?_;intro w e X hC
 repeat refine uA ?_
 refine uR ?_;intro K hK
 refine uH ?_
 refine callF uTS (g0) uTS uTS uTS ?_;refine uS ?_
 refine uH ?_
 refine hK _ ?_;clear hK K
 refine uF ?_
 refine uR ?_;intro K hK
 refine uH ?_
 refine callF uTS (gp) uTS uTS uTS ?_;refine uS ?_
 refine uH ?_
 refine hK _ ?_;clear hK K
 repeat first|refine uC ?_|refine uA1 (uI @e1 (uI @e2 (uI @e3 (uI @e4 (uI @e5 (uI @e6 (uI @e7 (uI @e8 (uI @e9 (uI @e10 (uI @e11 (uI @e12 @e13)))))))))))) ?_
 refine uD1 @str_mk ?_;intro K hK
 refine uH ?_
 refine callF uTS (d1) uTS uTS uTS ?_;refine uS ?_
 try refine uS1 @str_mk ?_
 refine uH ?_
 refine callF uTS (d2) uTS uTS uTS ?_;refine uS ?_
 try refine uS1 @str_mk ?_
 refine uH ?_
 refine hK _ ?_;clear hK K
 refine awp_ret ?_;rw[show Tryz.f13.results.toList=[.tmp 2, .tmp 3] from rfl];first|refine uRN ?_|exact uRM
 try first|rfl|simp[sInduct,sVerdict,sBreak,sRepair,sLoad,sUnload,sPick,sOffline,sOnline,sDepart,sMessage,sClear,sAlarm]
theorem rline_10 (x:Acx) (hx:SmA x) (hp:plainA x=true) (hk:x.k=10):SatG Tryz.prog tab 13 [] [x.av] [] (.tup [S (strOf (rlineB x)),I 0]):=by
 have g0:=plain_sat x hx
 rw[hp] at g0
 obtain⟨hk14,ho,hb⟩:=plainA_of hp
 have gp:=rpformat_sat x.plt
 obtain⟨lp,lf,lr,ln,li,ld,lc,la,lx,ht,lk,lm,lg,hm,hg⟩:=lnB hx
 have e1:=uDf (x.k=1)
 have e2:=uDf (x.k=2)
 have e3:=uDf (x.k=3)
 have e4:=uDf (x.k=4)
 have e5:=uDf (x.k=5)
 have e6:=uDf (x.k=6)
 have e7:=uDf (x.k=7)
 have e8:=uDf (x.k=8)
 have e9:=uDf (x.k=9)
 have e10:=uDt (x.k=10)
 have e11:=uDf (x.k=11)
 have e12:=uDf (x.k=12)
 have e13:=uDf (x.k=13)
 obtain⟨n1,n2,n3,n4⟩:=bodyB_n hb (by omega) (by omega) (by omega) (by omega)
 have d1:=rdec_sat _ n1
 have hT:rlineB x=sPick++32::(x.plt.fmt++32::decW x.node):=by unfold rlineB;rw[if_neg (by omega:¬x.k=1),if_neg (by omega:¬x.k=2),if_neg (by omega:¬x.k=3),if_neg (by omega:¬x.k=4),if_neg (by omega:¬x.k=5),if_neg (by omega:¬x.k=6),if_neg (by omega:¬x.k=7),if_neg (by omega:¬x.k=8),if_neg (by omega:¬x.k=9),if_pos hk]
 rw[hT]
 refine uFN Tryz.func13 Tryz.ntmps13 ?_;intro w e X hC
 repeat refine uA ?_
 refine uR ?_;intro K hK
 refine uH ?_
 refine callF uTS (g0) uTS uTS uTS ?_;refine uS ?_
 refine uH ?_
 refine hK _ ?_;clear hK K
 refine uF ?_
 refine uR ?_;intro K hK
 refine uH ?_
 refine callF uTS (gp) uTS uTS uTS ?_;refine uS ?_
 refine uH ?_
 refine hK _ ?_;clear hK K
 repeat first|refine uC ?_|refine uA1 (uI @e1 (uI @e2 (uI @e3 (uI @e4 (uI @e5 (uI @e6 (uI @e7 (uI @e8 (uI @e9 (uI @e10 (uI @e11 (uI @e12 @e13)))))))))))) ?_
 refine uR1 @str_mk ?_;intro K hK
 refine uH ?_
 refine callF uTS (d1) uTS uTS uTS ?_;refine uS ?_
 try refine uS1 @str_mk ?_
 refine uH ?_
 refine hK _ ?_;clear hK K
 refine awp_ret ?_;rw[show Tryz.f13.results.toList=[.tmp 2, .tmp 3] from rfl];first|refine uRN ?_|exact uRM
 try first|rfl|simp[sInduct,sVerdict,sBreak,sRepair,sLoad,sUnload,sPick,sOffline,sOnline,sDepart,sMessage,sClear,sAlarm]
theorem rline_11 (x:Acx) (hx:SmA x) (hp:plainA x=true) (hk:x.k=11):SatG Tryz.prog tab 13 [] [x.av] [] (.tup [S (strOf (rlineB x)),I 0]):=by
 have g0:=plain_sat x hx
 rw[hp] at g0
 obtain⟨hk14,ho,hb⟩:=plainA_of hp
 have gp:=rpformat_sat x.plt
 obtain⟨lp,lf,lr,ln,li,ld,lc,la,lx,ht,lk,lm,lg,hm,hg⟩:=lnB hx
 have e1:=uDf (x.k=1)
 have e2:=uDf (x.k=2)
 have e3:=uDf (x.k=3)
 have e4:=uDf (x.k=4)
 have e5:=uDf (x.k=5)
 have e6:=uDf (x.k=6)
 have e7:=uDf (x.k=7)
 have e8:=uDf (x.k=8)
 have e9:=uDf (x.k=9)
 have e10:=uDf (x.k=10)
 have e11:=uDt (x.k=11)
 have e12:=uDf (x.k=12)
 have e13:=uDf (x.k=13)
 obtain⟨n1,n2,n3,n4⟩:=bodyB_n hb (by omega) (by omega) (by omega) (by omega)
 have d1:=rdec_sat _ n3
 have hT:rlineB x=sOffline++32::decW x.dev:=by unfold rlineB;rw[if_neg (by omega:¬x.k=1),if_neg (by omega:¬x.k=2),if_neg (by omega:¬x.k=3),if_neg (by omega:¬x.k=4),if_neg (by omega:¬x.k=5),if_neg (by omega:¬x.k=6),if_neg (by omega:¬x.k=7),if_neg (by omega:¬x.k=8),if_neg (by omega:¬x.k=9),if_neg (by omega:¬x.k=10),if_pos hk]
 rw[hT]
 refine uFN Tryz.func13 Tryz.ntmps13 ?_;intro w e X hC
 repeat refine uA ?_
 refine uR ?_;intro K hK
 refine uH ?_
 refine callF uTS (g0) uTS uTS uTS ?_;refine uS ?_
 refine uH ?_
 refine hK _ ?_;clear hK K
 refine uF ?_
 refine uR ?_;intro K hK
 refine uH ?_
 refine callF uTS (gp) uTS uTS uTS ?_;refine uS ?_
 refine uH ?_
 refine hK _ ?_;clear hK K
 repeat first|refine uC ?_|refine uA1 (uI @e1 (uI @e2 (uI @e3 (uI @e4 (uI @e5 (uI @e6 (uI @e7 (uI @e8 (uI @e9 (uI @e10 (uI @e11 (uI @e12 @e13)))))))))))) ?_
 refine uR1 @str_mk ?_;intro K hK
 refine uH ?_
 refine callF uTS (d1) uTS uTS uTS ?_;refine uS ?_
 try refine uS1 @str_mk ?_
 refine uH ?_
 refine hK _ ?_;clear hK K
 refine awp_ret ?_;rw[show Tryz.f13.results.toList=[.tmp 2, .tmp 3] from rfl];first|refine uRN ?_|exact uRM
 try first|rfl|simp[sInduct,sVerdict,sBreak,sRepair,sLoad,sUnload,sPick,sOffline,sOnline,sDepart,sMessage,sClear,sAlarm]
theorem rline_12 (x:Acx) (hx:SmA x) (hp:plainA x=true) (hk:x.k=12):SatG Tryz.prog tab 13 [] [x.av] [] (.tup [S (strOf (rlineB x)),I 0]):=by
 have g0:=plain_sat x hx
 rw[hp] at g0
 obtain⟨hk14,ho,hb⟩:=plainA_of hp
 have gp:=rpformat_sat x.plt
 obtain⟨lp,lf,lr,ln,li,ld,lc,la,lx,ht,lk,lm,lg,hm,hg⟩:=lnB hx
 have e1:=uDf (x.k=1)
 have e2:=uDf (x.k=2)
 have e3:=uDf (x.k=3)
 have e4:=uDf (x.k=4)
 have e5:=uDf (x.k=5)
 have e6:=uDf (x.k=6)
 have e7:=uDf (x.k=7)
 have e8:=uDf (x.k=8)
 have e9:=uDf (x.k=9)
 have e10:=uDf (x.k=10)
 have e11:=uDf (x.k=11)
 have e12:=uDt (x.k=12)
 have e13:=uDf (x.k=13)
 obtain⟨n1,n2,n3,n4⟩:=bodyB_n hb (by omega) (by omega) (by omega) (by omega)
 have d1:=rdec_sat _ n3
 have hT:rlineB x=sOnline++32::decW x.dev:=by unfold rlineB;rw[if_neg (by omega:¬x.k=1),if_neg (by omega:¬x.k=2),if_neg (by omega:¬x.k=3),if_neg (by omega:¬x.k=4),if_neg (by omega:¬x.k=5),if_neg (by omega:¬x.k=6),if_neg (by omega:¬x.k=7),if_neg (by omega:¬x.k=8),if_neg (by omega:¬x.k=9),if_neg (by omega:¬x.k=10),if_neg (by omega:¬x.k=11),if_pos hk]
 rw[hT]
 refine uFN Tryz.func13 Tryz.ntmps13 ?_;intro w e X hC
 repeat refine uA ?_
 refine uR ?_;intro K hK
 refine uH ?_
 refine callF uTS (g0) uTS uTS uTS ?_;refine uS ?_
 refine uH ?_
 refine hK _ ?_;clear hK K
 refine uF ?_
 refine uR ?_;intro K hK
 refine uH ?_
 refine callF uTS (gp) uTS uTS uTS ?_;refine uS ?_
 refine uH ?_
 refine hK _ ?_;clear hK K
 repeat first|refine uC ?_|refine uA1 (uI @e1 (uI @e2 (uI @e3 (uI @e4 (uI @e5 (uI @e6 (uI @e7 (uI @e8 (uI @e9 (uI @e10 (uI @e11 (uI @e12 @e13)))))))))))) ?_
 refine uR1 @str_mk ?_;intro K hK
 refine uH ?_
 refine callF uTS (d1) uTS uTS uTS ?_;refine uS ?_
 try refine uS1 @str_mk ?_
 refine uH ?_
 refine hK _ ?_;clear hK K
 refine awp_ret ?_;rw[show Tryz.f13.results.toList=[.tmp 2, .tmp 3] from rfl];first|refine uRN ?_|exact uRM
 try first|rfl|simp[sInduct,sVerdict,sBreak,sRepair,sLoad,sUnload,sPick,sOffline,sOnline,sDepart,sMessage,sClear,sAlarm]
theorem rline_13 (x:Acx) (hx:SmA x) (hp:plainA x=true) (hk:x.k=13):SatG Tryz.prog tab 13 [] [x.av] [] (.tup [S (strOf (rlineB x)),I 0]):=by
 have g0:=plain_sat x hx
 rw[hp] at g0
 obtain⟨hk14,ho,hb⟩:=plainA_of hp
 have gp:=rpformat_sat x.plt
 obtain⟨lp,lf,lr,ln,li,ld,lc,la,lx,ht,lk,lm,lg,hm,hg⟩:=lnB hx
 have e1:=uDf (x.k=1)
 have e2:=uDf (x.k=2)
 have e3:=uDf (x.k=3)
 have e4:=uDf (x.k=4)
 have e5:=uDf (x.k=5)
 have e6:=uDf (x.k=6)
 have e7:=uDf (x.k=7)
 have e8:=uDf (x.k=8)
 have e9:=uDf (x.k=9)
 have e10:=uDf (x.k=10)
 have e11:=uDf (x.k=11)
 have e12:=uDf (x.k=12)
 have e13:=uDt (x.k=13)
 have d1:=rfformat_sat x.flt hx.fc hx.fs
 have hT:rlineB x=sDepart++32::x.flt.fmt:=by unfold rlineB;rw[if_neg (by omega:¬x.k=1),if_neg (by omega:¬x.k=2),if_neg (by omega:¬x.k=3),if_neg (by omega:¬x.k=4),if_neg (by omega:¬x.k=5),if_neg (by omega:¬x.k=6),if_neg (by omega:¬x.k=7),if_neg (by omega:¬x.k=8),if_neg (by omega:¬x.k=9),if_neg (by omega:¬x.k=10),if_neg (by omega:¬x.k=11),if_neg (by omega:¬x.k=12),if_pos hk]
 rw[hT]
 refine uFN Tryz.func13 Tryz.ntmps13 ?_;intro w e X hC
 repeat refine uA ?_
 refine uR ?_;intro K hK
 refine uH ?_
 refine callF uTS (g0) uTS uTS uTS ?_;refine uS ?_
 refine uH ?_
 refine hK _ ?_;clear hK K
 refine uF ?_
 refine uR ?_;intro K hK
 refine uH ?_
 refine callF uTS (gp) uTS uTS uTS ?_;refine uS ?_
 refine uH ?_
 refine hK _ ?_;clear hK K
 repeat first|refine uC ?_|refine uA1 (uI @e1 (uI @e2 (uI @e3 (uI @e4 (uI @e5 (uI @e6 (uI @e7 (uI @e8 (uI @e9 (uI @e10 (uI @e11 (uI @e12 @e13)))))))))))) ?_
 refine uR1 @str_mk ?_;intro K hK
 refine uH ?_
 refine callF uTS (d1) uTS uTS uTS ?_;refine uS ?_
 try refine uS1 @str_mk ?_
 refine uH ?_
 refine hK _ ?_;clear hK K
 refine awp_ret ?_;rw[show Tryz.f13.results.toList=[.tmp 2, .tmp 3] from rfl];first|refine uRN ?_|exact uRM
 try first|rfl|simp[sInduct,sVerdict,sBreak,sRepair,sLoad,sUnload,sPick,sOffline,sOnline,sDepart,sMessage,sClear,sAlarm]
theorem rline_14 (x:Acx) (hx:SmA x) (hp:plainA x=true) (hk:x.k=14):SatG Tryz.prog tab 13 [] [x.av] [] (.tup [S (strOf (rlineB x)),I 0]):=by
 have g0:=plain_sat x hx
 rw[hp] at g0
 obtain⟨hk14,ho,hb⟩:=plainA_of hp
 have gp:=rpformat_sat x.plt
 obtain⟨lp,lf,lr,ln,li,ld,lc,la,lx,ht,lk,lm,lg,hm,hg⟩:=lnB hx
 have e1:=uDf (x.k=1)
 have e2:=uDf (x.k=2)
 have e3:=uDf (x.k=3)
 have e4:=uDf (x.k=4)
 have e5:=uDf (x.k=5)
 have e6:=uDf (x.k=6)
 have e7:=uDf (x.k=7)
 have e8:=uDf (x.k=8)
 have e9:=uDf (x.k=9)
 have e10:=uDf (x.k=10)
 have e11:=uDf (x.k=11)
 have e12:=uDf (x.k=12)
 have e13:=uDf (x.k=13)
 have hT:rlineB x=sCrash:=by unfold rlineB;rw[if_neg (by omega:¬x.k=1),if_neg (by omega:¬x.k=2),if_neg (by omega:¬x.k=3),if_neg (by omega:¬x.k=4),if_neg (by omega:¬x.k=5),if_neg (by omega:¬x.k=6),if_neg (by omega:¬x.k=7),if_neg (by omega:¬x.k=8),if_neg (by omega:¬x.k=9),if_neg (by omega:¬x.k=10),if_neg (by omega:¬x.k=11),if_neg (by omega:¬x.k=12),if_neg (by omega)]
 rw[hT]
 refine uFN Tryz.func13 Tryz.ntmps13 ?_;intro w e X hC
 repeat refine uA ?_
 refine uR ?_;intro K hK
 refine uH ?_
 refine callF uTS (g0) uTS uTS uTS ?_;refine uS ?_
 refine uH ?_
 refine hK _ ?_;clear hK K
 refine uF ?_
 refine uR ?_;intro K hK
 refine uH ?_
 refine callF uTS (gp) uTS uTS uTS ?_;refine uS ?_
 refine uH ?_
 refine hK _ ?_;clear hK K
 repeat first|refine uC ?_|refine uA1 (uI @e1 (uI @e2 (uI @e3 (uI @e4 (uI @e5 (uI @e6 (uI @e7 (uI @e8 (uI @e9 (uI @e10 (uI @e11 (uI @e12 @e13)))))))))))) ?_
 repeat refine uA ?_
 refine awp_ret ?_;rw[show Tryz.f13.results.toList=[.tmp 2, .tmp 3] from rfl];first|refine uRN ?_|exact uRM
 rfl
theorem rline_4t (x:Acx) (hx:SmA x) (hp:plainA x=true) (hk:x.k=4) (hc:x.clr=true):SatG Tryz.prog tab 13 [] [x.av] [] (.tup [S (strOf (rlineB x)),I 0]):=by
 have g0:=plain_sat x hx
 rw[hp] at g0
 obtain⟨hk14,ho,hb⟩:=plainA_of hp
 have gp:=rpformat_sat x.plt
 obtain⟨lp,lf,lr,ln,li,ld,lc,la,lx,ht,lk,lm,lg,hm,hg⟩:=lnB hx
 have e1:=uDf (x.k=1)
 have e2:=uDf (x.k=2)
 have e3:=uDf (x.k=3)
 have e4:=uDt (x.k=4)
 have e5:=uDf (x.k=5)
 have e6:=uDf (x.k=6)
 have e7:=uDf (x.k=7)
 have e8:=uDf (x.k=8)
 have e9:=uDf (x.k=9)
 have e10:=uDf (x.k=10)
 have e11:=uDf (x.k=11)
 have e12:=uDf (x.k=12)
 have e13:=uDf (x.k=13)
 obtain⟨n1,n2,n3,n4⟩:=bodyB_n hb (by omega) (by omega) (by omega) (by omega)
 have d1:=rdec_sat _ n2
 have hT:rlineB x=sVerdict++32::(decW x.img++32::sClear):=by unfold rlineB;rw[if_neg (by omega:¬x.k=1),if_neg (by omega:¬x.k=2),if_neg (by omega:¬x.k=3),if_pos hk,hc];rfl
 rw[hT]
 refine uFN Tryz.func13 Tryz.ntmps13 ?_;intro w e X hC
 repeat refine uA ?_
 refine uR ?_;intro K hK
 refine uH ?_
 refine callF uTS (g0) uTS uTS uTS ?_;refine uS ?_
 refine uH ?_
 refine hK _ ?_;clear hK K
 refine uF ?_
 refine uR ?_;intro K hK
 refine uH ?_
 refine callF uTS (gp) uTS uTS uTS ?_;refine uS ?_
 refine uH ?_
 refine hK _ ?_;clear hK K
 repeat first|refine uC ?_|refine uA1 (uI @e1 (uI @e2 (uI @e3 (uI @e4 (uI @e5 (uI @e6 (uI @e7 (uI @e8 (uI @e9 (uI @e10 (uI @e11 (uI @e12 (uI @e13 @hc))))))))))))) ?_
 refine uR1 @str_mk ?_;intro K hK
 refine uH ?_
 refine callF uTS (d1) uTS uTS uTS ?_;refine uS ?_
 try refine uS1 @str_mk ?_
 refine uH ?_
 refine hK _ ?_;clear hK K
 refine awp_ret ?_;rw[show Tryz.f13.results.toList=[.tmp 2, .tmp 3] from rfl];first|refine uRN ?_|exact uRM
 try first|rfl|simp[sVerdict,sClear,sAlarm]
theorem rline_4f (x:Acx) (hx:SmA x) (hp:plainA x=true) (hk:x.k=4) (hc:x.clr=false):SatG Tryz.prog tab 13 [] [x.av] [] (.tup [S (strOf (rlineB x)),I 0]):=by
 have g0:=plain_sat x hx
 rw[hp] at g0
 obtain⟨hk14,ho,hb⟩:=plainA_of hp
 have gp:=rpformat_sat x.plt
 obtain⟨lp,lf,lr,ln,li,ld,lc,la,lx,ht,lk,lm,lg,hm,hg⟩:=lnB hx
 have e1:=uDf (x.k=1)
 have e2:=uDf (x.k=2)
 have e3:=uDf (x.k=3)
 have e4:=uDt (x.k=4)
 have e5:=uDf (x.k=5)
 have e6:=uDf (x.k=6)
 have e7:=uDf (x.k=7)
 have e8:=uDf (x.k=8)
 have e9:=uDf (x.k=9)
 have e10:=uDf (x.k=10)
 have e11:=uDf (x.k=11)
 have e12:=uDf (x.k=12)
 have e13:=uDf (x.k=13)
 obtain⟨n1,n2,n3,n4⟩:=bodyB_n hb (by omega) (by omega) (by omega) (by omega)
 have d1:=rdec_sat _ n2
 have hT:rlineB x=sVerdict++32::(decW x.img++32::sAlarm):=by unfold rlineB;rw[if_neg (by omega:¬x.k=1),if_neg (by omega:¬x.k=2),if_neg (by omega:¬x.k=3),if_pos hk,hc];rfl
 rw[hT]
 refine uFN Tryz.func13 Tryz.ntmps13 ?_;intro w e X hC
 repeat refine uA ?_
 refine uR ?_;intro K hK
 refine uH ?_
 refine callF uTS (g0) uTS uTS uTS ?_;refine uS ?_
 refine uH ?_
 refine hK _ ?_;clear hK K
 refine uF ?_
 refine uR ?_;intro K hK
 refine uH ?_
 refine callF uTS (gp) uTS uTS uTS ?_;refine uS ?_
 refine uH ?_
 refine hK _ ?_;clear hK K
 repeat first|refine uC ?_|refine uA1 (uI @e1 (uI @e2 (uI @e3 (uI @e4 (uI @e5 (uI @e6 (uI @e7 (uI @e8 (uI @e9 (uI @e10 (uI @e11 (uI @e12 (uI @e13 @hc))))))))))))) ?_
 refine uR1 @str_mk ?_;intro K hK
 refine uH ?_
 refine callF uTS (d1) uTS uTS uTS ?_;refine uS ?_
 try refine uS1 @str_mk ?_
 refine uH ?_
 refine hK _ ?_;clear hK K
 refine awp_ret ?_;rw[show Tryz.f13.results.toList=[.tmp 2, .tmp 3] from rfl];first|refine uRN ?_|exact uRM
 try first|rfl|simp[sVerdict,sClear,sAlarm]
theorem rline_1t (x:Acx) (hx:SmA x) (hp:plainA x=true) (hk:x.k=1) (hc:x.lost=true):SatG Tryz.prog tab 13 [] [x.av] [] (.tup [S (strOf (rlineB x)),I 0]):=by
 have g0:=plain_sat x hx
 rw[hp] at g0
 obtain⟨hk14,ho,hb⟩:=plainA_of hp
 have gp:=rpformat_sat x.plt
 obtain⟨lp,lf,lr,ln,li,ld,lc,la,lx,ht,lk,lm,lg,hm,hg⟩:=lnB hx
 have e1:=uDt (x.k=1)
 have e2:=uDf (x.k=2)
 have e3:=uDf (x.k=3)
 have e4:=uDf (x.k=4)
 have e5:=uDf (x.k=5)
 have e6:=uDf (x.k=6)
 have e7:=uDf (x.k=7)
 have e8:=uDf (x.k=8)
 have e9:=uDf (x.k=9)
 have e10:=uDf (x.k=10)
 have e11:=uDf (x.k=11)
 have e12:=uDf (x.k=12)
 have e13:=uDf (x.k=13)
 obtain⟨b1,b2⟩:=bodyB_1 hb hk
 have d1:=rsome_sat x.mv hx.mv fun f hf=>by obtain⟨q1,q2,q3,q4⟩:=flawB_of (b1 f hf);exact⟨⟨q1,by omega⟩,q3,q4⟩
 have d2:=rsome_sat x.gl hx.gl fun f hf=>by obtain⟨q1,q2,q3,q4⟩:=flawB_of (b2 f hf);exact⟨⟨by omega,q2⟩,q3,q4⟩
 have hT:rlineB x=sTick++((32::sLost)++(someB x.mv++someB x.gl)):=by unfold rlineB;rw[if_pos hk,hc];rfl
 rw[hT]
 refine uFN Tryz.func13 Tryz.ntmps13 ?_;intro w e X hC
 repeat refine uA ?_
 refine uR ?_;intro K hK
 refine uH ?_
 refine callF uTS (g0) uTS uTS uTS ?_;refine uS ?_
 refine uH ?_
 refine hK _ ?_;clear hK K
 refine uF ?_
 refine uR ?_;intro K hK
 refine uH ?_
 refine callF uTS (gp) uTS uTS uTS ?_;refine uS ?_
 refine uH ?_
 refine hK _ ?_;clear hK K
 repeat first|refine uC ?_|refine uA1 (uI @e1 (uI @e2 (uI @e3 (uI @e4 (uI @e5 (uI @e6 (uI @e7 (uI @e8 (uI @e9 (uI @e10 (uI @e11 (uI @e12 (uI @e13 @hc))))))))))))) ?_
 refine uD1 @str_mk ?_;intro K hK
 refine uH ?_
 refine callF uTS (d1) uTS uTS uTS ?_;refine uS ?_
 try refine uS1 @str_mk ?_
 refine uH ?_
 refine callF uTS (d2) uTS uTS uTS ?_;refine uS ?_
 try refine uS1 @str_mk ?_
 refine uH ?_
 refine hK _ ?_;clear hK K
 refine awp_ret ?_;rw[show Tryz.f13.results.toList=[.tmp 2, .tmp 3] from rfl];first|refine uRN ?_|exact uRM
 try first|rfl|simp[sTick,sLost]
theorem rline_1f (x:Acx) (hx:SmA x) (hp:plainA x=true) (hk:x.k=1) (hc:x.lost=false):SatG Tryz.prog tab 13 [] [x.av] [] (.tup [S (strOf (rlineB x)),I 0]):=by
 have g0:=plain_sat x hx
 rw[hp] at g0
 obtain⟨hk14,ho,hb⟩:=plainA_of hp
 have gp:=rpformat_sat x.plt
 obtain⟨lp,lf,lr,ln,li,ld,lc,la,lx,ht,lk,lm,lg,hm,hg⟩:=lnB hx
 have e1:=uDt (x.k=1)
 have e2:=uDf (x.k=2)
 have e3:=uDf (x.k=3)
 have e4:=uDf (x.k=4)
 have e5:=uDf (x.k=5)
 have e6:=uDf (x.k=6)
 have e7:=uDf (x.k=7)
 have e8:=uDf (x.k=8)
 have e9:=uDf (x.k=9)
 have e10:=uDf (x.k=10)
 have e11:=uDf (x.k=11)
 have e12:=uDf (x.k=12)
 have e13:=uDf (x.k=13)
 obtain⟨b1,b2⟩:=bodyB_1 hb hk
 have d1:=rsome_sat x.mv hx.mv fun f hf=>by obtain⟨q1,q2,q3,q4⟩:=flawB_of (b1 f hf);exact⟨⟨q1,by omega⟩,q3,q4⟩
 have d2:=rsome_sat x.gl hx.gl fun f hf=>by obtain⟨q1,q2,q3,q4⟩:=flawB_of (b2 f hf);exact⟨⟨by omega,q2⟩,q3,q4⟩
 have hT:rlineB x=sTick++([]++(someB x.mv++someB x.gl)):=by unfold rlineB;rw[if_pos hk,hc];rfl
 rw[hT]
 refine uFN Tryz.func13 Tryz.ntmps13 ?_;intro w e X hC
 repeat refine uA ?_
 refine uR ?_;intro K hK
 refine uH ?_
 refine callF uTS (g0) uTS uTS uTS ?_;refine uS ?_
 refine uH ?_
 refine hK _ ?_;clear hK K
 refine uF ?_
 refine uR ?_;intro K hK
 refine uH ?_
 refine callF uTS (gp) uTS uTS uTS ?_;refine uS ?_
 refine uH ?_
 refine hK _ ?_;clear hK K
 repeat first|refine uC ?_|refine uA1 (uI @e1 (uI @e2 (uI @e3 (uI @e4 (uI @e5 (uI @e6 (uI @e7 (uI @e8 (uI @e9 (uI @e10 (uI @e11 (uI @e12 (uI @e13 @hc))))))))))))) ?_
 refine uD1 @str_mk ?_;intro K hK
 refine uH ?_
 refine callF uTS (d1) uTS uTS uTS ?_;refine uS ?_
 try refine uS1 @str_mk ?_
 refine uH ?_
 refine callF uTS (d2) uTS uTS uTS ?_;refine uS ?_
 try refine uS1 @str_mk ?_
 refine uH ?_
 refine hK _ ?_;clear hK K
 refine awp_ret ?_;rw[show Tryz.f13.results.toList=[.tmp 2, .tmp 3] from rfl];first|refine uRN ?_|exact uRM
 try first|rfl|simp[sTick,sLost]
theorem revL_at {k:Int} (h:1<=k/\k<=5):([revN 1,revN 2,revN 3,revN 4,revN 5]:List Bs).getD (k - 1).toNat []=revN k:=by
 have:k=1\/k=2\/k=3\/k=4\/k=5:=by omega
 rcases this with rfl|rfl|rfl|rfl|rfl<;>rfl
theorem rline_5t (x:Acx) (hx:SmA x) (hp:plainA x=true) (hk:x.k=5) (hc:x.rev.k<=3):SatG Tryz.prog tab 13 [] [x.av] [] (.tup [S (strOf (rlineB x)),I 0]):=by
 have g0:=plain_sat x hx
 rw[hp] at g0
 obtain⟨hk14,ho,hb⟩:=plainA_of hp
 have gp:=rpformat_sat x.plt
 obtain⟨lp,lf,lr,ln,li,ld,lc,la,lx,ht,lk,lm,lg,hm,hg⟩:=lnB hx
 have e1:=uDf (x.k=1)
 have e2:=uDf (x.k=2)
 have e3:=uDf (x.k=3)
 have e4:=uDf (x.k=4)
 have e5:=uDt (x.k=5)
 have e6:=uDf (x.k=6)
 have e7:=uDf (x.k=7)
 have e8:=uDf (x.k=8)
 have e9:=uDf (x.k=9)
 have e10:=uDf (x.k=10)
 have e11:=uDf (x.k=11)
 have e12:=uDf (x.k=12)
 have e13:=uDf (x.k=13)
 obtain⟨b1,b2,b3⟩:=bodyB_5 hb hk
 have d1:=rfformat_sat x.rev.flt hx.rc hx.rs
 have d2:=rdec_sat _ b3
 have hT:rlineB x=revN x.rev.k++32::(x.rev.flt.fmt++(32::decW x.rev.amt)):=by unfold rlineB;rw[if_neg (by omega:¬x.k=1),if_neg (by omega:¬x.k=2),if_neg (by omega:¬x.k=3),if_neg (by omega:¬x.k=4),if_pos hk,if_pos hc]
 rw[hT]
 have r1:=revL_at b1
 have r2:([S (strOf [100,101,108,97,121]),S (strOf [111,112,101,110,115]),S (strOf [115,116,97,110,100]),S (strOf [99,97,110,99,101,108]),S (strOf [114,101,115,116,111,114,101])]:List AV).getD (x.rev.k - 1).toNat .bad=S (strOf (revN x.rev.k)):=by
  have:=strs_getD (l:=[revN 1,revN 2,revN 3,revN 4,revN 5]) (i:=(x.rev.k - 1).toNat) (by show _<5;omega)
  rw[r1] at this
  exact this
 have e14:decide (x.rev.k<=3)=true:=decide_eq_true hc
 refine uFN Tryz.func13 Tryz.ntmps13 ?_;intro w e X hC
 repeat refine uA ?_
 refine uR ?_;intro K hK
 refine uH ?_
 refine callF uTS (g0) uTS uTS uTS ?_;refine uS ?_
 refine uH ?_
 refine hK _ ?_;clear hK K
 refine uF ?_
 refine uR ?_;intro K hK
 refine uH ?_
 refine callF uTS (gp) uTS uTS uTS ?_;refine uS ?_
 refine uH ?_
 refine hK _ ?_;clear hK K
 repeat first|refine uC ?_|refine uA1 (uI @e1 (uI @e2 (uI @e3 (uI @e4 (uI @e5 (uI @e6 (uI @e7 (uI @e8 (uI @e9 (uI @e10 (uI @e11 (uI @e12 @e13)))))))))))) ?_
 refine uD1 (uI @r2 @str_mk) ?_;intro K hK
 refine uH ?_
 refine callF uTS (d1) uTS uTS uTS ?_;refine uS ?_
 try refine uS1 @str_mk ?_
 refine uH ?_
 refine hK _ ?_;clear hK K
 refine uA ?_
 rw[e14]
 refine uT ?_
 refine uR1 @str_mk ?_;intro K hK
 refine uH ?_
 refine callF uTS (d2) uTS uTS uTS ?_;refine uS ?_
 try refine uS1 @str_mk ?_
 refine uH ?_
 refine hK _ ?_;clear hK K
 repeat refine uA ?_
 refine awp_ret ?_;rw[show Tryz.f13.results.toList=[.tmp 2, .tmp 3] from rfl];first|refine uRN ?_|exact uRM
 try first|rfl|simp
theorem rline_5f (x:Acx) (hx:SmA x) (hp:plainA x=true) (hk:x.k=5) (hc:¬x.rev.k<=3):SatG Tryz.prog tab 13 [] [x.av] [] (.tup [S (strOf (rlineB x)),I 0]):=by
 have g0:=plain_sat x hx
 rw[hp] at g0
 obtain⟨hk14,ho,hb⟩:=plainA_of hp
 have gp:=rpformat_sat x.plt
 obtain⟨lp,lf,lr,ln,li,ld,lc,la,lx,ht,lk,lm,lg,hm,hg⟩:=lnB hx
 have e1:=uDf (x.k=1)
 have e2:=uDf (x.k=2)
 have e3:=uDf (x.k=3)
 have e4:=uDf (x.k=4)
 have e5:=uDt (x.k=5)
 have e6:=uDf (x.k=6)
 have e7:=uDf (x.k=7)
 have e8:=uDf (x.k=8)
 have e9:=uDf (x.k=9)
 have e10:=uDf (x.k=10)
 have e11:=uDf (x.k=11)
 have e12:=uDf (x.k=12)
 have e13:=uDf (x.k=13)
 obtain⟨b1,b2,b3⟩:=bodyB_5 hb hk
 have d1:=rfformat_sat x.rev.flt hx.rc hx.rs
 have d2:=rdec_sat _ b3
 have hT:rlineB x=revN x.rev.k++32::(x.rev.flt.fmt++([])):=by unfold rlineB;rw[if_neg (by omega:¬x.k=1),if_neg (by omega:¬x.k=2),if_neg (by omega:¬x.k=3),if_neg (by omega:¬x.k=4),if_pos hk,if_neg hc]
 rw[hT]
 have r1:=revL_at b1
 have r2:([S (strOf [100,101,108,97,121]),S (strOf [111,112,101,110,115]),S (strOf [115,116,97,110,100]),S (strOf [99,97,110,99,101,108]),S (strOf [114,101,115,116,111,114,101])]:List AV).getD (x.rev.k - 1).toNat .bad=S (strOf (revN x.rev.k)):=by
  have:=strs_getD (l:=[revN 1,revN 2,revN 3,revN 4,revN 5]) (i:=(x.rev.k - 1).toNat) (by show _<5;omega)
  rw[r1] at this
  exact this
 have e14:decide (x.rev.k<=3)=false:=decide_eq_false hc
 refine uFN Tryz.func13 Tryz.ntmps13 ?_;intro w e X hC
 repeat refine uA ?_
 refine uR ?_;intro K hK
 refine uH ?_
 refine callF uTS (g0) uTS uTS uTS ?_;refine uS ?_
 refine uH ?_
 refine hK _ ?_;clear hK K
 refine uF ?_
 refine uR ?_;intro K hK
 refine uH ?_
 refine callF uTS (gp) uTS uTS uTS ?_;refine uS ?_
 refine uH ?_
 refine hK _ ?_;clear hK K
 repeat first|refine uC ?_|refine uA1 (uI @e1 (uI @e2 (uI @e3 (uI @e4 (uI @e5 (uI @e6 (uI @e7 (uI @e8 (uI @e9 (uI @e10 (uI @e11 (uI @e12 @e13)))))))))))) ?_
 refine uD1 (uI @r2 @str_mk) ?_;intro K hK
 refine uH ?_
 refine callF uTS (d1) uTS uTS uTS ?_;refine uS ?_
 try refine uS1 @str_mk ?_
 refine uH ?_
 refine hK _ ?_;clear hK K
 refine uA ?_
 rw[e14]
 refine uF ?_
 repeat refine uA ?_
 refine awp_ret ?_;rw[show Tryz.f13.results.toList=[.tmp 2, .tmp 3] from rfl];first|refine uRN ?_|exact uRM
 try first|rfl|simp
theorem rline_sat (x:Acx) (hx:SmA x):SatG Tryz.prog tab 13 [] [x.av] [] (lineV (lineS x)):=by
 cases hp:plainA x with
 |false=>
  rw[rline_no hp]
  exact rline_bad x hx hp
 |true=>
  rw[rline_eq hp]
  show SatG Tryz.prog tab 13 [] [x.av] [] (.tup [S (strOf (rlineB x)),I 0])
  obtain⟨hk,-,-⟩:=plainA_of hp
  by_cases k1:x.k=1
  ·cases hc:x.lost with
   |true=>exact rline_1t x hx hp k1 hc
   |false=>exact rline_1f x hx hp k1 hc
  by_cases k4:x.k=4
  ·cases hc:x.clr with
   |true=>exact rline_4t x hx hp k4 hc
   |false=>exact rline_4f x hx hp k4 hc
  by_cases k5:x.k=5
  ·by_cases hc:x.rev.k<=3
   ·exact rline_5t x hx hp k5 hc
   ·exact rline_5f x hx hp k5 hc
  by_cases k2:x.k=2
  ·exact rline_2 x hx hp k2
  by_cases k3:x.k=3
  ·exact rline_3 x hx hp k3
  by_cases k6:x.k=6
  ·exact rline_6 x hx hp k6
  by_cases k7:x.k=7
  ·exact rline_7 x hx hp k7
  by_cases k8:x.k=8
  ·exact rline_8 x hx hp k8
  by_cases k9:x.k=9
  ·exact rline_9 x hx hp k9
  by_cases k10:x.k=10
  ·exact rline_10 x hx hp k10
  by_cases k11:x.k=11
  ·exact rline_11 x hx hp k11
  by_cases k12:x.k=12
  ·exact rline_12 x hx hp k12
  by_cases k13:x.k=13
  ·exact rline_13 x hx hp k13
  exact rline_14 x hx hp (by omega)
open Go.Scr
theorem gTick_sm {ws:List Bs} (h:ws.length<=1000):SmA (gTick ws):=by
 have f1:∀l:List Bs,(lowF (l.map rfault)).length<=l.length:=fun l=>by
  have:=List.length_filter_le (fun f:Flaw=>decide (f.k<=2)) (l.map rfault)
  rw[List.length_map] at this
  exact this
 have f2:∀l:List Bs,(highF (l.map rfault)).length<=l.length:=fun l=>by
  have:=List.length_filter_le (fun f:Flaw=>!decide (f.k<=2)) (l.map rfault)
  rw[List.length_map] at this
  exact this
 have ht:ws.tail.length<=1000:=by rw[List.length_tail];omega
 unfold gTick
 split
 ·exact⟨Nat.le_trans (f1 _) ht,Nat.le_trans (f2 _) ht,Nat.zero_le _,Nat.zero_le _,Nat.zero_le _,Nat.zero_le _,Nat.zero_le _⟩
 ·exact⟨Nat.le_trans (f1 _) h,Nat.le_trans (f2 _) h,Nat.zero_le _,Nat.zero_le _,Nat.zero_le _,Nat.zero_le _,Nat.zero_le _⟩
theorem guess_sm {s:Bs} (hs:s.length<=900000) (hc:s.count 32<=999):SmA (guessS s):=by
 have z:∀{k:Int} {p:Plt} {a b c d:Int} {e:Bool},SmA {A0 k with plt:=p,node:=a,img:=b,dev:=c,con:=d,clr:=e}:=⟨Nat.zero_le _,Nat.zero_le _,Nat.zero_le _,Nat.zero_le _,Nat.zero_le _,Nat.zero_le _,Nat.zero_le _⟩
 have hl:(splitL 32 s).length<=1000:=by rw[splitL_length];omega
 have fr:∀(k a:Int) (t:Bs),SmA {A0 5 with rev:=⟨k,a,(fltParse t).1⟩}:=fun k a t=>by
  have:=fltParse_len t
  exact⟨Nat.zero_le _,Nat.zero_le _,Nat.zero_le _,Nat.le_trans this.1 (by decide),Nat.le_trans this.2 (by decide),Nat.zero_le _,Nat.zero_le _⟩
 have ff:∀(t:Bs),SmA {A0 13 with flt:=(fltParse t).1}:=fun t=>by
  have:=fltParse_len t
  exact⟨Nat.zero_le _,Nat.zero_le _,Nat.zero_le _,Nat.zero_le _,Nat.zero_le _,Nat.le_trans this.1 (by decide),Nat.le_trans this.2 (by decide)⟩
 have ft:SmA {A0 3 with txt:=swapB 124 10 (s.drop (min s.length 8))}:=⟨Nat.zero_le _,Nat.zero_le _,by show(swapB 124 10 (s.drop (min s.length 8))).length<=_;rw[swapB_length,List.length_drop];omega,Nat.zero_le _,Nat.zero_le _,Nat.zero_le _,Nat.zero_le _⟩
 unfold guessS guessW
 split
 ·exact gTick_sm (by rw[List.length_drop];omega)
 ·exact z
 ·exact ft
 ·exact z
 ·exact fr _ _ _
 ·exact fr _ _ _
 ·exact fr _ _ _
 ·exact fr _ _ _
 ·exact fr _ _ _
 ·exact z
 ·exact z
 ·exact z
 ·exact z
 ·exact z
 ·exact z
 ·exact z
 ·exact ff _
 ·exact z
 ·exact z
theorem rparseline_sat (s:Bs) (hs:s.length<=900000) (hc:s.count 32<=999):SatG Tryz.prog tab 17 [] [S (strOf s)] [] (parseV (parseS s)):=by
 have g1:=rguess_sat s hs
 have g2:=rline_sat _ (guess_sm hs hc)
 have hp:=rparse_eq s
 unfold rparseS at hp
 rw[<-hp]
 clear hp
 generalize guessS s=x at*
 refine uFN Tryz.func17 Tryz.ntmps17 ?_;intro w e X hC
 repeat refine uA ?_
 cases hl:lineS x with
 |none=>
  rw[hl] at g2
  replace g2:SatG Tryz.prog tab 13 [] [x.av] [] (.tup [S (strOf []),I 3]):=g2
  rw[if_neg (by simp)]
  refine uR ?_;intro K hK
  refine uH ?_
  refine callP uTS (g1) uTS uTS uTS ?_;refine uS ?_
  refine uH ?_
  refine hK _ ?_;clear hK K
  refine uR ?_;intro K hK
  refine uH ?_
  refine callF uTS (g2) uTS uTS uTS ?_;refine uS ?_
  refine uH ?_
  refine hK _ ?_;clear hK K
  repeat refine uA ?_
  refine uT ?_
  repeat refine uA ?_
  refine awp_ret ?_;rw[show Tryz.f17.results.toList=[.cell 2 30, .tmp 3] from rfl];first|refine uRN ?_|exact uRM
  try rfl
 |some t=>
  rw[hl] at g2
  replace g2:SatG Tryz.prog tab 13 [] [x.av] [] (.tup [S (strOf t),I 0]):=g2
  by_cases ht:t=s
  ·subst ht
   rw[if_pos rfl]
   refine uR ?_;intro K hK
   refine uH ?_
   refine callP uTS (g1) uTS uTS uTS ?_;refine uS ?_
   refine uH ?_
   refine hK _ ?_;clear hK K
   refine uR ?_;intro K hK
   refine uH ?_
   refine callF uTS (g2) uTS uTS uTS ?_;refine uS ?_
   refine uH ?_
   refine hK _ ?_;clear hK K
   repeat refine uA ?_
   refine uF ?_
   repeat refine uA ?_
   refine awp_ret ?_;rw[show Tryz.f17.results.toList=[.cell 2 30, .tmp 3] from rfl];first|refine uRN ?_|exact uRM
   try rfl
  ·have e1:(decide ¬t=s)=true:=decide_eq_true ht
   rw[if_neg (fun h=>ht (Option.some.inj h))]
   refine uR ?_;intro K hK
   refine uH ?_
   refine callP uTS (g1) uTS uTS uTS ?_;refine uS ?_
   refine uH ?_
   refine hK _ ?_;clear hK K
   refine uR ?_;intro K hK
   refine uH ?_
   refine callF uTS (g2) uTS uTS uTS ?_;refine uS ?_
   refine uH ?_
   refine hK _ ?_;clear hK K
   repeat refine uA1 @e1 ?_
   refine uT ?_
   repeat refine uA ?_
   refine awp_ret ?_;rw[show Tryz.f17.results.toList=[.cell 2 30, .tmp 3] from rfl];first|refine uRN ?_|exact uRM
   try rfl
end Go.Proofs.YtokkbonoplbiaaaGreatDoor
namespace Go.Sym
open Go Go.Deep Go.ChangeShapes Go.WideShapes Go.ChangeAt Go.RowKit
inductive All2 {α β:Type} (r:α->β->Prop):List α->List β->Prop
 |nil:All2 r [] []
 |cons {a:α} {b:β} {l:List α} {m:List β}:r a b->All2 r l m->All2 r (a::l) (b::m)
def RsApp:List (List AV->Prop)->List AV->Prop
 |[],avs=>avs=[]
 |R::Rs,avs=>∃a b,R a/\RsApp Rs b/\avs=a++b
section
variable {H:Type} {enc:TypeId×Value->H} {P:Program} {W:World} {U:Nat->Prop}
structure CV (W:World) (U:Nat->Prop) (avs:List AV) (cs:List Value):Prop where
 len:avs.length=cs.length
 at_:∀j,j<avs.length->(avs.getD j .bad).one=true/\VD W U (avs.getD j .bad) (cs.getD j undef)
def Rds (enc:TypeId×Value->H) (P:Program) (W:World) (U:Nat->Prop) (t:TypeId) (R:List AV->Prop):Prop:=
 ∀fuel cs x,DataW.trod enc P W 0 (fun _=>true) true fuel t cs=some x->∃avs,R avs/\CV W U avs cs
theorem CV.one {a:AV} {c:Value} (h1:a.one=true) (h2:VD W U a c):CV W U [a] [c]:=
 ⟨rfl,fun j hj=>by
  have:j=0:=by simpa using hj
  subst this;exact⟨h1,h2⟩⟩
theorem CV.app {a b:List AV} {cs ds:List Value} (h1:CV W U a cs) (h2:CV W U b ds):CV W U (a++b) (cs++ds):=by
 have hl1:=h1.len
 refine⟨by rw[List.length_append,List.length_append,h1.len,h2.len],fun j hj=>?_⟩
 rw[List.length_append] at hj
 by_cases h:j<a.length
 ·have:=h1.at_ j h
  simp only[List.getD_eq_getElem?_getD] at this ⊢
  rw[List.getElem?_append_left h,List.getElem?_append_left (by omega)]
  exact this
 ·have:=h2.at_ (j - a.length) (by omega)
  simp only[List.getD_eq_getElem?_getD] at this ⊢
  rw[List.getElem?_append_right (by omega),List.getElem?_append_right (by omega),<-hl1]
  exact this
theorem Rds.mono {t:TypeId} {R R':List AV->Prop} (h:Rds enc P W U t R) (hR:∀avs,R avs->R' avs):Rds enc P W U t R':=fun fuel cs x hx=>by
 obtain⟨avs,h1,h2⟩:=h fuel cs x hx
 exact⟨avs,hR _ h1,h2⟩
theorem Rds.int {t:TypeId} (ht:P.underlying t=some (.int .i64)):Rds enc P W U t (fun avs=>∃n:Int,(-9223372036854775808<=n/\n<=9223372036854775807)/\avs=[I n]):=fun fuel cs x hx=>by
 obtain⟨n,rfl,_,hw⟩:=DataW.trod_int ht hx
 exact⟨_,⟨n,wf_i64 hw,rfl⟩, .one rfl (.lit _ rfl)⟩
theorem Rds.str {t:TypeId} (ht:P.underlying t=some .string):Rds enc P W U t (fun avs=>∃s:ByteArray,s.size<=maxLen/\avs=[S s]):=fun fuel cs x hx=>by
 obtain⟨s,rfl,_,hs⟩:=DataW.trod_string ht hx
 exact⟨_,⟨s,hs,rfl⟩, .one rfl (.lit _ rfl)⟩
theorem Rds.sl {t e:TypeId} {k:Nat} {R:List AV->Prop} (hU:∀b,U b) (ht:P.underlying t=some (.slice e)) (hk:P.cellsOf e=k) (hk0:0<k) (he:Rds enc P W U e R):
  Rds enc P W U t (fun avs=>∃rows:List (List AV),rows.length<=9223372036854775807/\(∀r∈rows,R r)/\avs=[.sl (rows.map .agg) false]):=by
 intro fuel cs x hx
 rcases DataW.trod_slice ht hx with ⟨rfl,_⟩|⟨a,len,cap,elems,rest,n,_,rfl,_,_,hl,hm,hlen,hel,hsp,_⟩
 ·exact⟨_,⟨[],by simp,by simp,rfl⟩, .one rfl (.nil _ _)⟩
 ·obtain⟨hrl,hre⟩:=hsp rfl
  rw[hk] at hel hre
  have key:∀i,i<cap->∃avs ds,(i<len->R avs)/\CV W U avs ds/\ds.length=k/\∀j,j<k->W.cell? ((a.add (i*k)).add j)=ds[j]?:=by
   intro i hi
   have hb:∃y,(W.cells? 0 (a.add (i*k)) k).bind (DataW.trod enc P W 0 (fun _=>true) true n e)=some y:=by
    by_cases h:i<len
    ·rw[hel i h]
     exact⟨_,List.getElem?_eq_getElem (by omega)⟩
    ·have:=hre (i - len) (by omega)
     rw[show len+(i - len)=i by omega] at this
     rw[this]
     exact⟨_,List.getElem?_eq_getElem (by omega)⟩
   obtain⟨y,hy⟩:=hb
   rw[Option.bind_eq_some_iff] at hy
   obtain⟨ds,h1,h2⟩:=hy
   obtain⟨_,h3,h4⟩:=World.cells?_some h1
   obtain⟨avs,h5,h6⟩:=he _ _ _ h2
   exact⟨avs,ds,fun _=>h5,h6,h3,h4⟩
  by_cases h0:cap=0
  ·obtain rfl:len=0:=by omega
   subst h0
   exact⟨_,⟨[],by simp,by simp,rfl⟩, .one rfl (.nil _ _)⟩
  ·have hspot:a=⟨a.block,a.off,none⟩/\a.block<W.heap.size:=by
    obtain⟨_,ds,_,_,hd,hc⟩:=key 0 (by omega)
    have h1:=hc 0 hk0
    rw[List.getElem?_eq_getElem (by omega)] at h1
    have h2:=cell_spot h1
    have e1:(a.add (0*k)).add 0=a:=by rw[Nat.zero_mul];unfold Addr.add;cases a with|mk b o s=>cases s<;>rfl
    rw[e1] at h2
    exact h2
   obtain⟨ea,hsz⟩:=hspot
   have pick:∀i,∃avs:List AV,i<len->R avs/\∃ds,CV W U avs ds/\ds.length=k/\∀j,j<k->W.cell? ⟨a.block,a.off+(i*k+j),none⟩=ds[j]?:=by
    intro i
    by_cases h:i<len
    ·obtain⟨avs,ds,h1,h2,h3,h4⟩:=key i (by omega)
     refine⟨avs,fun _=>⟨h1 h,ds,h2,h3,fun j hj=>?_⟩⟩
     have h5:=h4 j hj
     rw[ea,add_plain,add_plain] at h5
     rw[<-h5]
     show W.cell? ⟨a.block,a.off+(i*k+j),none⟩=W.cell? ⟨a.block,a.off+i*k+j,none⟩
     rw[Nat.add_assoc]
    ·exact⟨[],fun h2=>absurd h2 h⟩
   obtain⟨g,hg⟩:=Classical.axiomOfChoice pick
   have hrow:∀i (hi:i<((List.range len).map g).length),((List.range len).map g)[i]=g i:=fun i hi=>by simp
   have hgl:∀i,i<len->(g i).length=k:=fun i hi=>by
    obtain⟨_,ds,h2,h3,_⟩:=hg i hi
    rw[h2.len,h3]
   refine⟨_,⟨(List.range len).map g,by rw[List.length_map,List.length_range];unfold maxLen at hm;omega,?_,rfl⟩, .one rfl ?_⟩
   ·intro r hr
    obtain⟨i,hi,rfl⟩:=List.mem_map.1 hr
    exact(hg i (List.mem_range.1 hi)).1
   ·have hlz:((List.range len).map g |>.map AV.agg).length=len:=by simp
    have:=VD.sl (w:=W) (U:=U) ((List.range len).map g |>.map AV.agg) false a.block a.off cap k (fun j=>(W.cell? ⟨a.block,a.off+j,none⟩).getD undef) (hU _) hsz (by rw[hlz];exact hl) hm (by simp) hk0
     (by
      intro i hi
      rw[hlz] at hi
      simp only[List.getElem_map,List.getElem_range,AV.cells]
      exact hgl i hi)
     (by
      intro j hj
      rw[hlz] at hj
      have hi:j / k<len:=Nat.div_lt_of_lt_mul (by rwa[Nat.mul_comm] at hj)
      obtain⟨_,ds,_,h3,h4⟩:=hg (j / k) hi
      have h5:=h4 (j % k) (Nat.mod_lt _ hk0)
      rw[Nat.div_add_mod',List.getElem?_eq_getElem (by rw[h3];exact Nat.mod_lt _ hk0)] at h5
      rw[h5];rfl)
     (by
      intro i hi j hj
      rw[hlz] at hi
      simp only[List.getElem_map,List.getElem_range,AV.cells] at hj ⊢
      obtain⟨_,ds,h2,h3,_⟩:=hg i hi
      have:=(h2.at_ j hj).1
      rwa[List.getD_eq_getElem?_getD,List.getElem?_eq_getElem hj] at this)
     (by
      intro i hi j hj
      rw[hlz] at hi
      simp only[List.getElem_map,List.getElem_range,AV.cells] at hj ⊢
      obtain⟨_,ds,h2,h3,h4⟩:=hg i hi
      have h5:=(h2.at_ j hj).2
      rw[List.getD_eq_getElem?_getD,List.getElem?_eq_getElem hj] at h5
      have hjk:j<k:=by rw[hgl i hi] at hj;exact hj
      have h6:=h4 j hjk
      rw[List.getElem?_eq_getElem (by omega)] at h6
      rw[h6]
      rw[List.getD_eq_getElem?_getD,List.getElem?_eq_getElem (by omega)] at h5
      exact h5)
    rw[hlz] at this
    rw[<-ea] at this
    exact this
theorem struct_go {n:Nat} {cs:List Value}:∀(fl:List Field) (Rs:List (List AV->Prop)) (o:Nat),All2 (fun(f:Field) R=>Rds enc P W U f.type R) fl Rs->
  (∀f∈fl,∃x,DataW.trod enc P W 0 (fun _=>true) true n f.type ((cs.drop f.offset).take (P.cellsOf f.type))=some x)->
  (fl.map (·.offset)=(List.range fl.length).map fun i=>o+((fl.take i).map fun f=>P.cellsOf f.type).sum)->o+(fl.map fun f=>P.cellsOf f.type).sum=cs.length->
  ∃avs,RsApp Rs avs/\CV W U avs (cs.drop o)
 |[],_,o, .nil,_,_,hsum=>by
  refine⟨[],rfl,?_⟩
  have:cs.drop o=[]:=List.drop_eq_nil_of_le (by simp at hsum;omega)
  rw[this]
  exact⟨rfl,fun j hj=>absurd hj (Nat.not_lt_zero _)⟩
 |f::fl,R::Rs,o, .cons h1 h2,ht,ho,hsum=>by
  have hof:f.offset=o:=by
   have:=congrArg (fun l=>l.head?) ho
   simpa[List.range_succ_eq_map] using this
  obtain⟨x,hx⟩:=ht f List.mem_cons_self
  obtain⟨avs,ha,hc⟩:=h1 _ _ _ hx
  have hsum':o+P.cellsOf f.type+(fl.map fun f=>P.cellsOf f.type).sum=cs.length:=by
   rw[List.map_cons,List.sum_cons] at hsum;omega
  have ho':fl.map (·.offset)=(List.range fl.length).map fun i=>o+P.cellsOf f.type+((fl.take i).map fun f=>P.cellsOf f.type).sum:=by
   have:=congrArg List.tail ho
   simp only[List.map_cons,List.tail_cons,List.length_cons,List.range_succ_eq_map,List.map_map] at this
   rw[this]
   refine List.map_congr_left fun i _=>?_
   simp only[Function.comp,List.take_succ_cons,List.map_cons,List.sum_cons]
   omega
  obtain⟨bvs,hb,hd⟩:=struct_go fl Rs (o+P.cellsOf f.type) h2 (fun g hg=>ht g (List.mem_cons_of_mem _ hg)) ho' hsum'
  refine⟨avs++bvs,⟨avs,bvs,ha,hb,rfl⟩,?_⟩
  have:=hc.app hd
  rw[hof,<-List.drop_drop,List.take_append_drop] at this
  exact this
theorem Rds.struct {t:TypeId} {fs:Array Field} (ht:P.underlying t=some (.struct fs)) {Rs:List (List AV->Prop)} (hR:All2 (fun(f:Field) R=>Rds enc P W U f.type R) fs.toList Rs)
  (ho:(fs.toList.map (·.offset)=(List.range fs.toList.length).map fun i=>0+((fs.toList.take i).map fun f=>P.cellsOf f.type).sum)) (hs:(fs.toList.map fun f=>P.cellsOf f.type).sum=P.cellsOf t):
  Rds enc P W U t (RsApp Rs):=by
 intro fuel cs x hx
 obtain⟨xs,n,_,_,hl,hxl,hf⟩:=DataW.trod_struct ht hx
 have:=struct_go (n:=n) (cs:=cs) fs.toList Rs 0 hR (fun f hfm=>by
  obtain⟨i,hi,rfl⟩:=List.getElem_of_mem hfm
  have h1:=hf i fs.toList[i] (by simp[Array.getElem?_eq_getElem (by simpa using hi)])
  rw[h1]
  exact⟨_,List.getElem?_eq_getElem (by simpa[hxl] using hi)⟩) ho (by rw[hs,hl];omega)
 rwa[List.drop_zero] at this
theorem arg_rd_struct {t:TypeId} {v:Value} {d:DataW H} {ps:List MemPlace} {R:List AV->Prop} (hk:P.cellsOf t≠1) (hc:∀fuel cs x,DataW.trod enc P W 0 (fun _=>true) true fuel t cs=some x->cs.length=P.cellsOf t) (hd:DataW.Trod enc P W 0 (fun _=>true) true t v d ps) (h:Rds enc P W U t R):
  ∃avs,R avs/\VD W U (.agg avs) v:=by
 obtain⟨fuel,hf⟩:=hd
 obtain⟨avs,h1,h2⟩:=h _ _ _ hf
 have hl:=hc _ _ _ hf
 refine⟨avs,h1,?_⟩
 cases v with
 |agg cs=>
  refine .agg _ _ (by rw[h2.len];simp[Value.cells]) (fun i hi=>?_) (fun i hi=>?_)
  ·have:=(h2.at_ i hi).1
   rwa[List.getD_eq_getElem?_getD,List.getElem?_eq_getElem hi] at this
  ·have:=(h2.at_ i hi).2
   rw[List.getD_eq_getElem?_getD,List.getElem?_eq_getElem hi] at this
   simpa[Value.cells,Array.getD_eq_getD_getElem?] using this
 |_=>exact absurd hl (fun h=>hk (by rw[<-h];rfl))
end
end Go.Sym
