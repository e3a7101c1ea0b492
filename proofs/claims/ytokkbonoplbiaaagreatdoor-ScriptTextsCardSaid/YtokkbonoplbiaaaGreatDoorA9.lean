/- Lemmas towards scriptTexts_card: no conditions of their own beyond those that each one states. -/
import Derived.Test.YtokkbonoplbiaaaGreatDoorA8
set_option linter.all false
set_option linter.unusedSimpArgs false
set_option linter.unusedVariables false
set_option linter.deprecated false
namespace Go.Proofs.YtokkbonoplbiaaaGreatDoor
open Go Go.Sym
open Go.Scr
def actsG (l:List Int):Nat->Nat->List Acx->List Acx×Nat
 |0,a,out=>(out,a)
 |k+1,a,out=>actsG l k (gA l a).2 (if plainA (gA l a).1=true then out++[(gA l a).1] else out)
def genA (l:List Int) (a:Nat) (most:Int):List Acx×Nat:=actsG l (gN l a (most+1)).toNat (a+1) []
structure SmH (x:Acx):Prop where
 q:SmQ x
 ln:lineS x≠none
theorem SmH.g {x:Acx} (h:SmH x):SmG x:=⟨h.q.mv,h.q.gl,h.q.tx,h.q.sp,h.ln⟩
theorem SmQ.a {x:Acx} (h:SmQ x):SmA x:=⟨by have:=h.mv;omega,by have:=h.gl;omega,by have:=h.tx;omega,by have:=h.rc;omega,by have:=h.rs;omega,by have:=h.fc;omega,by have:=h.fs;omega⟩
theorem plainA_ln {x:Acx} (h:plainA x=true):lineS x≠none:=fun e=>by rw[plainA_line,e] at h;cases h
theorem actsG_ok (l:List Int):∀(k a:Nat) (out:List Acx),(∀x∈out,SmH x)->(∀x∈(actsG l k a out).1,SmH x)/\(actsG l k a out).1.length<=out.length+k
 |0,a,out,h=>⟨h,Nat.le_refl _⟩
 |k+1,a,out,h=>by
  unfold actsG
  by_cases c:plainA (gA l a).1=true
  ·rw[if_pos c]
   have:=actsG_ok l k (gA l a).2 (out++[(gA l a).1]) fun x hx=>by
    rcases List.mem_append.1 hx with hx|hx
    ·exact h x hx
    ·rw[List.mem_singleton.1 hx];exact⟨gA_sm l a,plainA_ln c⟩
   rw[List.length_append,List.length_singleton] at this
   exact⟨this.1,by omega⟩
  ·rw[if_neg c]
   have:=actsG_ok l k (gA l a).2 out h
   exact⟨this.1,by omega⟩
theorem genA_ok (l:List Int) (a:Nat) (most:Int) (h0:0<=most) (h1:most<=100):(∀x∈(genA l a most).1,SmH x)/\(genA l a most).1.length<=most.toNat:=by
 have b:=gN_lt (l:=l) (a:=a) (n:=most+1) (by omega)
 have:=actsG_ok l (gN l a (most+1)).toNat (a+1) [] (fun x hx=>by cases hx)
 rw[List.length_nil] at this
 exact⟨this.1,by unfold genA;omega⟩
theorem acts_sat (l:List Int) (a:Nat) (most:Int) (hf:Fits l) (h0:0<=most) (h1:most<=100):
  SatG Tryz.prog tab 20 (srcC l a) [.ptO 0 0 0 0 0,I most] (srcC l (genA l a most).2) (.sl (acts (genA l a most).1) false):=by
 have g0:=gN_sat l a (most+1) hf (by omega)
 have b:=gN_lt (l:=l) (a:=a) (n:=most+1) (by omega)
 unfold genA
 generalize gN l a (most+1)=n at*
 obtain⟨n,rfl⟩:∃m:Nat,n=m:=⟨n.toNat,by omega⟩
 rw[Int.toNat_natCast]
 generalize hT:actsG l n (a+1) []=T
 refine uFN Tryz.func20 Tryz.ntmps20 ?_;intro w e X hC
 repeat refine uA ?_
 refine uR ?_;intro K hK
 refine uH ?_
 refine callL rfl (g0) uTS uTS uTS uTS uTS ?_;refine uS ?_
 refine hK _ ?_;clear hK K
 refine uW ?_
 refine awp_loopW (fun i:Nat×Nat×Nat×List Acx=>⟨[(0, .ptO 0 0 0 0 0),(5, .slO 105 2 0 i.2.2.2.length),(6,I i.2.1)],(105,some (2, .own 30 23 (acts i.2.2.2)))::srcC l i.2.2.1,i.1⟩) (fun i=>actsG l i.2.1 i.2.2.1 i.2.2.2=T/\i.2.2.2.length+i.2.1<=1000) (fun i=>i.2.1) (_,n,a+1,[]) ⟨hT,by simp only[List.length_nil];omega⟩ (uKF) ?_
 rintro⟨ck,k,a',out⟩ ⟨hk,hl⟩
 simp only at hk hl
 repeat refine uA ?_
 refine uW ?_;refine condP _ rfl (fun h=>?_) (fun h=>?_)
 ·obtain⟨k,rfl⟩:∃m,k=m+1:=⟨k - 1,by omega⟩
  have g1:=gA_sat l a' out.length hf
  have gq:=(gA_sm l a').a
  have g2:=plain_sat (gA l a').1 gq
  rw[actsG] at hk
  have hk1:((k+1:Nat):Int) - 1=(k:Nat):=by omega
  generalize gA l a'=y at*
  obtain⟨x,a2⟩:=y
  simp only at hk g1 g2 gq
  refine uR ?_;intro K hK
  refine uH ?_
  refine callL rfl (g1) uTS uTS uTS uTS uTS ?_;refine uS ?_
  refine hK _ ?_;clear hK K
  cases hp:plainA x with
  |true=>
   rw[hp] at g2 hk
   rw[if_pos rfl] at hk
   have hsn:acts out++[x.av]=acts (out++[x]):=acts_snoc
   have hln:(out++[x]).length=out.length+1:=by simp
   refine uR ?_;intro K hK
   refine uH ?_
   refine callP uTS (g2) uTS uTS uTS ?_;refine uS ?_
   refine uH ?_
   refine hK _ ?_;clear hK K
   refine uT ?_
   repeat refine uA1 @hsn ?_
   refine⟨(_,k,a2,out++[x]),⟨hk,by simp only[List.length_append,List.length_singleton];omega⟩,by simp only;omega, .of (Nat.le_refl _) (uHF1 @hln) (uWF1 (uI @hln @hk1))⟩
  |false=>
   rw[hp] at g2 hk
   rw[if_neg (by decide)] at hk
   refine uR ?_;intro K hK
   refine uH ?_
   refine callP uTS (g2) uTS uTS uTS ?_;refine uS ?_
   refine uH ?_
   refine hK _ ?_;clear hK K
   refine uF ?_
   repeat refine uA ?_
   refine⟨(_,k,a2,out),⟨hk,by simp only;omega⟩,by simp only;omega, .of (Nat.le_refl _) uHF (uWF1 @hk1)⟩
 ·have:k=0:=by omega
  subst this
  refine awp_exit ?_
  rw[actsG] at hk
  subst hk
  repeat refine uA ?_
  refine awp_ret ?_;rw[show Tryz.f20.results.toList=[.tmp 4] from rfl];(refine(retBs uRG rfl uTC uTC ?_ ?_);all_goals (first|refine uSC ?_|exact uXC|skip))
open Go.Scr
theorem rvalue_sat (s:Bs) (hs:s.length<=10) (hd:s.all digit=true):SatG Tryz.prog tab 123 [] [S (strOf s)] [] (I (numL 0 s:Nat)):=by
 refine uFN Tryz.func123 Tryz.ntmps123 ?_;intro w e X hC
 repeat refine uA ?_
 refine uW ?_
 refine awp_loopW (fun i:Nat×Nat=>⟨[(0,S (strOf s)),(3,I (numL 0 (s.take i.2):Nat)),(4,I i.2)],[],i.1⟩) (fun i=>i.2<=s.length) (fun i=>s.length - i.2) (_,0) (Nat.zero_le _) (uKF) ?_
 rintro⟨ck,i⟩ hi
 simp only at hi
 have hn:=numL_take hd hi
 have hn:numL 0 (s.take i)<10000000000:=Nat.lt_of_lt_of_le hn (Nat.pow_le_pow_right (by decide) (by omega:i<=10))
 repeat refine uA ?_
 refine uW ?_;refine condP _ rfl (fun h=>?_) (fun h=>?_)
 ·have hlt:i<s.length:=by omega
  have hdg:48<=(s.getD i 0).toNat/\(s.getD i 0).toNat<=57:=of_decide_eq_true (all_getD hd hlt)
  have e1:=take_snoc hlt
  have e2:=numL_snoc 0 (s.take i) (s.getD i 0)
  rw[<-e1] at e2
  have hw:=wrap_dig (all_getD hd hlt)
  have e3:((numL 0 (s.take (i+1)):Nat):Int)=(numL 0 (s.take i):Nat)*10+(((s.getD i 0).toNat:Int) - 48):=by omega
  repeat refine uA1 @hw ?_
  refine⟨(_,i+1),by simp only;omega,by simp only;omega, .of (Nat.le_refl _) uHF (uWF1 @e3)⟩
 ·refine awp_exit ?_
  have:i=s.length:=by omega
  subst this
  rw[List.take_length]
  repeat refine uA ?_
  (refine awp_ret (ret1 uRT ?_);try rfl)
theorem rall_sat (s:Bs) (hs:s.length<=1000000):SatG Tryz.prog tab 122 [] [S (strOf s)] [] (B (s.all digit)):=by
 refine uFN Tryz.func122 Tryz.ntmps122 ?_;intro w e X hC
 repeat refine uA ?_
 refine uW ?_
 refine awp_loopW (fun i:Nat×Nat=>⟨[(0,S (strOf s)),(3,I i.2)],[],i.1⟩) (fun i=>i.2<=s.length/\(s.take i.2).all digit=true) (fun i=>s.length - i.2) (_,0) ⟨Nat.zero_le _,rfl⟩ (uKF) ?_
 rintro⟨ck,i⟩ ⟨hi,hj⟩
 simp only at hi hj
 refine uA ?_
 refine uW ?_;refine condP _ rfl (fun h=>?_) (fun h=>?_)
 ·have hlt:i<s.length:=by omega
  have hno:digit (s.getD i 0)=false->B (s.all digit)=B false:=fun h=>by rw[not_all hlt h]
  by_cases c0:(s.getD i 0).toNat<48
  ·have e0:=uDt ((((s.getD i 0).toNat:Nat):Int)<48)
   rw[hno (decide_eq_false (by omega))]
   repeat refine uA1 @e0 ?_
   refine uT ?_
   repeat refine uA ?_
   (refine awp_ret (ret1 uRT ?_);try rfl)
  ·have e0:=uDf ((((s.getD i 0).toNat:Nat):Int)<48)
   by_cases c1:57<(s.getD i 0).toNat
   ·have e1:=uDt (57<(((s.getD i 0).toNat:Nat):Int))
    rw[hno (decide_eq_false (by omega))]
    repeat refine uA1 (uI @e0 @e1) ?_
    refine uT ?_
    repeat refine uA ?_
    (refine awp_ret (ret1 uRT ?_);try rfl)
   ·have e1:=uDf (57<(((s.getD i 0).toNat:Nat):Int))
    repeat refine uA1 (uI @e0 @e1) ?_
    refine uF ?_
    repeat refine uA ?_
    refine⟨(_,i+1),⟨by simp only;omega,take_all hlt hj (decide_eq_true ⟨by omega,by omega⟩)⟩,by simp only;omega,uKF⟩
 ·refine awp_exit ?_
  have:i=s.length:=by omega
  subst this
  rw[List.take_length] at hj
  rw[hj]
  repeat refine uA ?_
  (refine awp_ret (ret1 uRT ?_);try rfl)
theorem zero_bytsD (k n:Nat):byts (List.replicate k 0++digs n 0)=List.replicate k (.lit (.int .u8 0)):=by
 simp[digs,byts,byteE]
theorem dig_wrap2 (n:Nat):IntKind.u8.wrap (48+(n:Int).tmod 10)=((UInt8.ofNat (48+n % 10)).toNat:Nat):=by
 have h1:(n:Int).tmod 10=((n % 10:Nat):Int):=by rw[Int.tmod_eq_emod_of_nonneg (by omega)];rfl
 rw[h1,dig_toNat (by omega),IntKind.wrap_u8]
 omega
theorem byts_stepD (N k i:Nat) (h:i<k):(byts (List.replicate (k - i) 0++digs N i)).set (k - 1 - i) (.lit (.int .u8 ((UInt8.ofNat (48+N / 10^i % 10)).toNat:Nat)))=byts (List.replicate (k - (i+1)) 0++digs N (i+1)):=by
 rw[digs_head,show k - (i+1)=k - 1 - i by omega,show k - i=(k - 1 - i)+1 by omega,List.replicate_succ']
 simp only[byts,List.map_append,List.append_assoc]
 generalize hA:List.map byteE (List.replicate (k - 1 - i) 0)=A
 have hAl:A.length=k - 1 - i:=by rw[<-hA];simp
 rw[List.set_append_right _ _ (by omega),hAl,Nat.sub_self]
 rfl
theorem rdigits_sat (N k:Nat) (hN:N<10^12) (hk:k<=12) (hk0:1<=k):SatG Tryz.prog tab 72 [] [I N,I k] [] (S (strOf (digs N k))):=by
 have hN:N<1000000000000:=hN
 refine uFN Tryz.func72 Tryz.ntmps72 ?_;intro w e X hC
 repeat refine uA ?_
 refine uW ?_
 refine awp_loopW (fun i:Nat×Nat=>⟨[(0,I (N / 10^i.2:Nat)),(5, .slO 108 3 0 k),(6,I ((k:Int) - 1 - i.2))],[(108,some (3, .own 5 1 (byts (List.replicate (k - i.2) 0++digs N i.2))))],i.1⟩) (fun i=>i.2<=k) (fun i=>k - i.2) (_,0) (Nat.zero_le _) (.of (Nat.le_refl _) (uHF1 (uI @zero_bytsD @Nat.sub_zero)) (uWF1 (uI @Nat.pow_zero (uI @Nat.div_one (uI @Int.natCast_zero @Int.sub_zero))))) ?_
 rintro⟨ck,i⟩ hi
 simp only at hi
 have hl:k - i+(digs N i).length=k:=by rw[digs_length];omega
 repeat refine uA ?_
 refine uW ?_;refine condP _ rfl (fun h=>?_) (fun h=>?_)
 ·have hlt:i<k:=by omega
  have hw:=dig_wrap2 (N / 10^i)
  have hx:((k:Int) - 1 - i).toNat=k - 1 - i:=by omega
  have hs:=byts_stepD N k i hlt
  have hq:((N / 10^i:Nat):Int).tdiv 10=((N / 10^(i+1):Nat):Int):=by
   rw[Int.tdiv_eq_ediv_of_nonneg (Int.natCast_nonneg _),Nat.pow_succ,<-Nat.div_div_eq_div_mul];rfl
  have hb2:N / 10^i<=N:=Nat.div_le_self _ _
  have hmd:0<=((N / 10^i:Nat):Int).tmod 10/\((N / 10^i:Nat):Int).tmod 10<10:=by rw[Int.tmod_eq_emod_of_nonneg (Int.natCast_nonneg _)];omega
  refine uR1 (uI @hw (uI @hx (uI @hl @hs))) ?_;intro K hK
  refine⟨by omega,by omega,by omega,?_⟩
  refine hK _ ?_;clear hK K
  have hq2:IntKind.i64.wrap ((N / 10^(i+1):Nat):Int)=((N / 10^(i+1):Nat):Int):=by
   have:N / 10^(i+1)<=N:=Nat.div_le_self _ _
   generalize N / 10^(i+1)=q at*
   rw[IntKind.wrap_i64];omega
  have hi1:(k:Int) - 1 - i - 1=(k:Int) - 1 - (i+1:Nat):=by omega
  repeat refine uA1 (uI @hq (uI @hq2 @hi1)) ?_
  refine⟨(_,i+1),by simp only;omega,by simp only;omega,uKF⟩
 ·refine awp_exit ?_
  have:i=k:=by omega
  subst this
  have e2:List.replicate (i - i) (0:UInt8)++digs N i=digs N i:=by rw[Nat.sub_self];rfl
  rw[e2]
  repeat refine uA ?_
  (refine awp_ret (ret1 uRT ?_);try rfl)
theorem rnum_of {p:Plt} (h:p.ok=true):∃N:Nat,p.num=N/\N<10000000000:=by
 have hb:=pltnum_ok h
 exact⟨p.num.toNat,by unfold Plt.num;omega,by unfold Plt.num;omega⟩
theorem rpformat_sat (p:Plt):SatG Tryz.prog tab 38 [] [Plt.av p] [] (S (strOf p.fmt)):=by
 have h0:=rvalid_sat p
 refine uFN Tryz.func38 Tryz.ntmps38 ?_;intro w e X hC
 repeat refine uA ?_
 cases c0:p.ok with
 |false=>
  have e:p.fmt=[]:=by unfold Plt.fmt;rw[c0];rfl
  rw[c0] at h0
  rw[e]
  refine uR ?_;intro K hK
  refine uH ?_
  refine callF uTS (h0) uTS uTS uTS ?_;refine uS ?_
  refine hK _ ?_;clear hK K
  refine uT ?_
  repeat refine uA ?_
  (refine awp_ret (ret1 uRT ?_);try rfl)
 |true=>
  have hb:=pltnum_ok c0
  have e:p.fmt=digs p.num.toNat 10:=by unfold Plt.fmt;rw[c0];rfl
  have h1:=rnumP_sat p.l p.a p.s ⟨hb.1,hb.2.1⟩ (by omega) (by omega)
  obtain⟨N,hN,hN3⟩:=rnum_of c0
  have hN2:(p.l*1000+p.a)*1000000+p.s=N:=hN
  rw[hN2] at h1
  have h2:=rdigits_sat N 10 (by omega) (by decide) (by decide)
  rw[c0] at h0
  rw[e,hN,Int.toNat_natCast]
  refine uR ?_;intro K hK
  refine uH ?_
  refine callF uTS (h0) uTS uTS uTS ?_;refine uS ?_
  refine hK _ ?_;clear hK K
  refine uF ?_
  refine uR ?_;intro K hK
  refine uH ?_
  refine callF uTS (h1) uTS uTS uTS ?_;refine uS ?_
  refine uH ?_
  refine callF uTS (h2) uTS uTS uTS ?_;refine uS ?_
  refine hK _ ?_;clear hK K
  (refine awp_ret (ret1 uRT ?_);try rfl)
theorem rpparse_sat (s:Bs) (hs:s.length<=1000000):SatG Tryz.prog tab 96 [] [S (strOf s)] [] (.tup [Plt.av (pltParse s).1,I (pltParse s).2]):=by
 have hbad:¬(s.length=10/\s.all digit=true)->pltParse s=(P0,3):=fun h=>by unfold pltParse;rw[if_neg h]
 have g0:=rall_sat s hs
 refine uFN Tryz.func96 Tryz.ntmps96 ?_;intro w e X hC
 repeat refine uA ?_
 by_cases c0:s.length=10
 ·have e0:(decide ¬(s.length:Int)=10)=false:=decide_eq_false (by omega)
  cases hj:s.all digit with
  |false=>
   rw[hj] at g0
   rw[hbad (fun h=>by rw[hj] at h;exact absurd h.2 (by decide))]
   refine uR1 @e0 ?_;intro K hK
   refine uH ?_
   refine callF uTS (g0) uTS uTS uTS ?_;refine uS ?_
   try refine uS1 @e0 ?_
   refine uH ?_
   refine hK _ ?_;clear hK K
   refine uT ?_
   repeat refine uA ?_
   refine awp_ret ?_;rw[show Tryz.f96.results.toList=[.cell 2 24, .tmp 3] from rfl];first|refine uRN ?_|exact uRM
   rfl
  |true=>
   rw[hj] at g0
   have h1:=rvalue_sat (s.take 1) (by rw[List.length_take];omega) (all_take hj 1)
   have h2:=rvalue_sat ((s.take 4).drop 1) (by rw[List.length_drop,List.length_take];omega) (all_part hj 1 4)
   have h3:=rvalue_sat (s.drop 4) (by rw[List.length_drop];omega) (all_drop hj 4)
   have h4:=rvalid_sat (pltOf s)
   have hgood:pltParse s=if(pltOf s).ok then(pltOf s,0) else(P0,1):=by unfold pltParse;rw[if_pos ⟨c0,hj⟩]
   rw[hgood]
   refine uR1 @e0 ?_;intro K hK
   refine uH ?_
   refine callF uTS (g0) uTS uTS uTS ?_;refine uS ?_
   try refine uS1 @e0 ?_
   refine uH ?_
   refine hK _ ?_;clear hK K
   refine uF ?_
   refine uD ?_;intro K hK
   refine uH ?_
   refine callF uTS (h1) uTS uTS uTS ?_;refine uS ?_
   refine uH ?_
   refine callF uTS (h2) uTS uTS uTS ?_;refine uS ?_
   refine uH ?_
   refine callF uTS (h3) uTS uTS uTS ?_;refine uS ?_
   refine uH ?_
   refine hK _ ?_;clear hK K
   cases c3:(pltOf s).ok with
   |true=>
    rw[c3] at h4
    refine uR ?_;intro K hK
    refine uH ?_
    refine callF uTS (h4) uTS uTS uTS ?_;refine uS ?_
    refine hK _ ?_;clear hK K
    refine uF ?_
    repeat refine uA ?_
    refine awp_ret ?_;rw[show Tryz.f96.results.toList=[.cell 2 24, .tmp 3] from rfl];first|refine uRN ?_|exact uRM
    rfl
   |false=>
    rw[c3] at h4
    refine uR ?_;intro K hK
    refine uH ?_
    refine callF uTS (h4) uTS uTS uTS ?_;refine uS ?_
    refine hK _ ?_;clear hK K
    refine uT ?_
    repeat refine uA ?_
    refine awp_ret ?_;rw[show Tryz.f96.results.toList=[.cell 2 24, .tmp 3] from rfl];first|refine uRN ?_|exact uRM
    rfl
 ·have e0:(decide ¬(s.length:Int)=10)=true:=decide_eq_true (by omega)
  rw[hbad (fun h=>c0 h.1)]
  repeat refine uA1 @e0 ?_
  refine uT ?_
  repeat refine uA ?_
  refine awp_ret ?_;rw[show Tryz.f96.results.toList=[.cell 2 24, .tmp 3] from rfl];first|refine uRN ?_|exact uRM
  rfl
open Go.Scr
def tenS:Bs:=[48,49,50,51,52,53,54,55,56,57]
theorem tenS_cut (d:Nat) (h:d<10):(tenS.take (d+1)).drop d=[UInt8.ofNat (48+d)]:=by
 have:d=0\/d=1\/d=2\/d=3\/d=4\/d=5\/d=6\/d=7\/d=8\/d=9:=by omega
 rcases this with rfl|rfl|rfl|rfl|rfl|rfl|rfl|rfl|rfl|rfl<;>rfl
theorem decimal_nat:∀(k n:Nat),n<10^(k+1)->k<=6->SatG Tryz.prog tab 40 [] [I n] [] (S (strOf (Lib.decDigits n)))
 |k,n,hn,hk=>by
  have hb:n<10^7:=Nat.lt_of_lt_of_le hn (Nat.pow_le_pow_right (by decide) (by omega))
  have d0:=uDf ((n:Int)<0)
  by_cases h:n<10
  ·have e:Lib.decDigits n=[UInt8.ofNat (48+n)]:=by rw[Lib.decDigits,dif_pos h]
   have hc:=tenS_cut n h
   have d1:=uDt ((n:Int)<10)
   have hc:(48::[49,50,51,52,53,54,55,56,57].take n).drop n=[UInt8.ofNat (48+n)]:=hc
   have e5:((n:Int)+1).toNat=n+1:=by omega
   rw[e]
   refine uFN Tryz.func40 Tryz.ntmps40 ?_;intro w e X hC
   repeat refine uA1 @d0 ?_
   refine uF ?_
   repeat refine uA1 @d1 ?_
   refine uT ?_
   repeat refine uA1 (uI @e5 @hc) ?_
   (refine awp_ret (ret1 uRT ?_);try rfl)
  ·cases k with
   |zero=>exact absurd hn (by omega)
   |succ k=>
    have ih:=decimal_nat k (n / 10) (by rw[Nat.pow_succ] at hn;omega) (by omega)
    have e:Lib.decDigits n=Lib.decDigits (n / 10)++[UInt8.ofNat (48+n % 10)]:=by rw[Lib.decDigits,dif_neg h]
    have hc:=tenS_cut (n % 10) (by omega)
    have d1:=uDf ((n:Int)<10)
    have hc:(48::[49,50,51,52,53,54,55,56,57].take (n % 10)).drop (n % 10)=[UInt8.ofNat (48+n % 10)]:=hc
    have m1:(n:Int).tmod 10=((n % 10:Nat):Int):=by rw[Int.tmod_eq_emod_of_nonneg (by omega)];rfl
    have m2:(n:Int).tdiv 10=((n / 10:Nat):Int):=by rw[Int.tdiv_eq_ediv_of_nonneg (by omega)];rfl
    have m3:IntKind.i64.wrap ((n / 10:Nat):Int)=((n / 10:Nat):Int):=by rw[IntKind.wrap_i64];omega
    have m4:IntKind.i64.wrap ((n % 10:Nat):Int)=((n % 10:Nat):Int):=by rw[IntKind.wrap_i64];omega
    have e5:(((n % 10:Nat):Int)+1).toNat=n % 10+1:=by omega
    have hdl:(Lib.decDigits (n / 10)).length<=7:=dec_len (k:=6) (by omega)
    rw[e]
    refine uFN Tryz.func40 Tryz.ntmps40 ?_;intro w e X hC
    repeat refine uA1 @d0 ?_
    refine uF ?_
    repeat refine uA1 @d1 ?_
    refine uF ?_
    refine uD1 (uI @m1 (uI @m2 (uI @m3 (uI @m4 (uI @e5 @hc))))) ?_;intro K hK
    refine uH ?_
    refine callF uTS (ih) uTS uTS uTS ?_;refine uS ?_
    try refine uS1 (uI @m1 (uI @m4 (uI @e5 @hc))) ?_
    refine uH ?_
    refine hK _ ?_;clear hK K
    (refine awp_ret (ret1 uRT ?_);try rfl)
theorem swap_step {a b:UInt8} {s:Bs} {i:Nat} (hi:i<s.length):(swapB a b (s.take i)++s.drop i).set i (if s.getD i 0=a then b else s.getD i 0)=swapB a b (s.take (i+1))++s.drop (i+1):=by
 rw[List.set_append_right _ _ (by rw[swapB_length,List.length_take];omega),swapB_length,List.length_take,Nat.min_eq_left (by omega),Nat.sub_self,List.drop_eq_getElem_cons hi,List.set_cons_zero,take_snoc hi]
 simp[swapB]
theorem swap_stepT {b:UInt8} {s:Bs} {a:UInt8} {i:Nat} (hi:i<s.length) (h:s.getD i 0=a):(byts (swapB a b (s.take i)++s.drop i)).set i (Uc b)=byts (swapB a b (s.take (i+1))++s.drop (i+1)):=by
 have:=swap_step (a:=a) (b:=b) hi
 rw[if_pos h] at this
 rw[<-this]
 simp[byts,List.map_set,byteE]
theorem swap_stepF {b:UInt8} {s:Bs} {a:UInt8} {i:Nat} (hi:i<s.length) (h:¬s.getD i 0=a):swapB a b (s.take i)++s.drop i=swapB a b (s.take (i+1))++s.drop (i+1):=by
 rw[<-swap_step hi,if_neg h]
 apply List.ext_getElem?
 intro j
 rw[List.getElem?_set]
 split
 ·rename_i hj;subst hj
  have hx:=hi
  rw[if_pos (by simp[swapB];omega),List.getElem?_append_right (by rw[swapB_length,List.length_take];omega),swapB_length,List.length_take,Nat.min_eq_left (by omega),Nat.sub_self,List.getElem?_drop,Nat.add_zero,List.getD_eq_getElem?_getD,List.getElem?_eq_getElem hi]
  rfl
 ·rfl
theorem u8_eq (a c:UInt8):decide (((a.toNat:Nat):Int)=((c.toNat:Nat):Int))=decide (a=c):=by
 refine decide_eq_decide.2 ⟨fun h=>UInt8.toNat_inj.1 (by omega),fun h=>by rw[h]⟩
theorem swap_at {a b:UInt8} {s:Bs} {i:Nat} (hi:i<s.length):(swapB a b (s.take i)++s.drop i).getD i 0=s.getD i 0:=by
 rw[List.getD_eq_getElem?_getD,List.getElem?_append_right (by rw[swapB_length,List.length_take];omega),swapB_length,List.length_take,Nat.min_eq_left (by omega),Nat.sub_self,List.getElem?_drop,Nat.add_zero,<-List.getD_eq_getElem?_getD]
theorem rbars_sat (s:Bs) (a b:UInt8) (hl:s.length<=1000000):SatG Tryz.prog tab 41 [] [S (strOf s),Uc a,Uc b] [] (S (strOf (swapB a b s))):=by
 refine uFN Tryz.func41 Tryz.ntmps41 ?_;intro w e X hC
 repeat refine uA ?_
 refine uW ?_
 refine awp_loopW (fun i:Nat×Nat=>⟨[(1,Uc a),(2,Uc b),(7, .slO 110 3 0 s.length),(12,I s.length),(13,I i.2)],[(110,some (3, .own 5 1 (byts (swapB a b (s.take i.2)++s.drop i.2))))],i.1⟩) (fun i=>i.2<=s.length) (fun i=>s.length - i.2) (_,0) (Nat.zero_le _) (uKF) ?_
 rintro⟨ck,i⟩ hi
 simp only at hi
 have hll:(swapB a b (s.take i)).length+(s.drop i).length=s.length:=by rw[swapB_length,List.length_take,List.length_drop];omega
 repeat refine uA ?_
 refine uW ?_;refine condP _ rfl (fun h=>?_) (fun h=>?_)
 ·have hlt:i<s.length:=by omega
  have hgd:(byts (swapB a b (s.take i)++s.drop i)).getD i .bad=Uc (s.getD i 0):=by
   rw[byts_getD (by rw[List.length_append];omega),swap_at hlt]
  have hu:=u8_eq (s.getD i 0) a
  by_cases c0:s.getD i 0=a
  ·rw[decide_eq_true c0] at hu
   have hst:=swap_stepT (b:=b) hlt c0
   refine uA ?_
   refine uR1 (uI @hgd (uI @hu @hll)) ?_;intro K hK
   refine uH ?_
   refine hK _ ?_;clear hK K
   refine uT ?_
   repeat refine uA1 (uI @hll @hst) ?_
   refine⟨(_,i+1),by simp only;omega,by simp only;omega,uKF⟩
  ·rw[decide_eq_false c0] at hu
   have hst:=swap_stepF (b:=b) hlt c0
   refine uA ?_
   refine uR1 (uI @hgd (uI @hu @hll)) ?_;intro K hK
   refine uH ?_
   refine hK _ ?_;clear hK K
   refine uF ?_
   repeat refine uA ?_
   rw[hst]
   refine⟨(_,i+1),by simp only;omega,by simp only;omega,uKF⟩
 ·refine awp_exit ?_
  have:i=s.length:=by omega
  subst this
  have e2:swapB a b (s.take s.length)++s.drop s.length=swapB a b s:=by rw[List.take_length,List.drop_length,List.append_nil]
  rw[e2]
  repeat refine uA1 @swapB_length ?_
  (refine awp_ret (ret1 uRT ?_);try rfl)
open Go Go.Sym Go.Scr Go.Lib
def rval (s:Bs):Int:=if s≠[]/\s.length<=6/\s.all digit=true/\¬(s.getD 0 0=48/\1<s.length) then(numL 0 s:Nat) else -1
def rfault (s:Bs):Flaw:=
 if(splitL 58 s).length=3/\kindOf ((splitL 58 s).getD 0 [])≠0 then⟨kindOf ((splitL 58 s).getD 0 []),rval ((splitL 58 s).getD 1 []),rval ((splitL 58 s).getD 2 [])⟩ else W0
def lowF (l:List Flaw):List Flaw:=l.filter fun f=>decide (f.k<=2)
def highF (l:List Flaw):List Flaw:=l.filter fun f=>!decide (f.k<=2)
def gTick (ws:List Bs):Acx:=
 if ws.head?=some sLost then {A0 1 with lost:=true,mv:=lowF (ws.tail.map rfault),gl:=highF (ws.tail.map rfault)}
 else {A0 1 with mv:=lowF (ws.map rfault),gl:=highF (ws.map rfault)}
def wordN (s:Bs):Nat:=
 if s=sTick then 1
 else if s=sInduct then 2
 else if s=sMessage then 3
 else if s=sVerdict then 4
 else if s=(revN 1) then 5
 else if s=(revN 2) then 6
 else if s=(revN 3) then 7
 else if s=(revN 4) then 8
 else if s=(revN 5) then 9
 else if s=sBreak then 10
 else if s=sRepair then 11
 else if s=sLoad then 12
 else if s=sUnload then 13
 else if s=sPick then 14
 else if s=sOffline then 15
 else if s=sOnline then 16
 else if s=sDepart then 17
 else if s=sCrash then 18
 else 0
def guessW (s:Bs) (w:List Bs):Acx:=
 match wordN (w.getD 0 []) with
 |1=>gTick (w.drop 1)
 |2=>{A0 2 with plt:=(pltParse (w.getD 1 [])).1,node:=rval (w.getD 2 [])}
 |3=>{A0 3 with txt:=swapB 124 10 (s.drop (min s.length 8))}
 |4=>{A0 4 with img:=rval (w.getD 1 []),clr:=decide (w.getD 2 []=sClear)}
 |5=>{A0 5 with rev:=⟨1,rval (w.getD 2 []),(fltParse (w.getD 1 [])).1⟩}
 |6=>{A0 5 with rev:=⟨2,rval (w.getD 2 []),(fltParse (w.getD 1 [])).1⟩}
 |7=>{A0 5 with rev:=⟨3,rval (w.getD 2 []),(fltParse (w.getD 1 [])).1⟩}
 |8=>{A0 5 with rev:=⟨4,0,(fltParse (w.getD 1 [])).1⟩}
 |9=>{A0 5 with rev:=⟨5,0,(fltParse (w.getD 1 [])).1⟩}
 |10=>{A0 6 with node:=rval (w.getD 1 [])}
 |11=>{A0 7 with node:=rval (w.getD 1 [])}
 |12=>{A0 8 with dev:=rval (w.getD 1 []),plt:=(pltParse (w.getD 2 [])).1,node:=rval (w.getD 3 []),con:=rval (w.getD 4 [])}
 |13=>{A0 9 with dev:=rval (w.getD 1 []),plt:=(pltParse (w.getD 2 [])).1,con:=rval (w.getD 3 [])}
 |14=>{A0 10 with plt:=(pltParse (w.getD 1 [])).1,node:=rval (w.getD 2 [])}
 |15=>{A0 11 with dev:=rval (w.getD 1 [])}
 |16=>{A0 12 with dev:=rval (w.getD 1 [])}
 |17=>{A0 13 with flt:=(fltParse (w.getD 1 [])).1}
 |18=>A0 14
 |_=>A0 0
def guessS (s:Bs):Acx:=guessW s (splitL 32 s)
def rparseS (s:Bs):Option Acx:=if lineS (guessS s)=some s then some (guessS s) else none
theorem rval_dec {n:Int} (h:numB n=true):rval (decW n)=n:=by
 have hn:0<=n/\n<=999999:=of_decide_eq_true h
 have e:decW n=decDigits n.toNat:=by unfold decW;rw[if_pos h]
 rw[e]
 have hl:(decDigits n.toNat).length<=6:=dec_len (k:=5) (by omega)
 have hd:(decDigits n.toNat).all digit=true:=List.all_eq_true.2 fun c hc=>dec_digit _ c hc
 have hc:¬((decDigits n.toNat).getD 0 0=48/\1<(decDigits n.toNat).length):=by
  rintro⟨h1,h2⟩
  by_cases h0:n.toNat=0
  ·rw[h0] at h2
   exact absurd h2 (by decide+kernel)
  ·have:=dec_head n.toNat h0
   cases hq:decDigits n.toNat with
   |nil=>exact dec_ne _ hq
   |cons a b=>
    rw[hq] at this h1
    simp only[List.getD_cons_zero] at h1
    rw[h1] at this
    exact this rfl
 unfold rval
 rw[if_pos ⟨dec_ne _,hl,hd,hc⟩,dec_num]
 omega
theorem rfault_w {f:Flaw} (h:1<=f.k/\f.k<=6) (h1:numB f.n=true) (h2:numB f.w=true):rfault (wFault f)=f:=by
 unfold rfault
 rw[wFault_split]
 simp only[List.getD_cons_zero,List.getD_cons_succ,List.length_cons,List.length_nil]
 rw[kindOf_fault h,if_pos ⟨by simp,by omega⟩,rval_dec h1,rval_dec h2]
theorem map_rfault:∀{l:List Flaw},(∀f∈l,(1<=f.k/\f.k<=6)/\numB f.n=true/\numB f.w=true)->(l.map wFault).map rfault=l
 |[],_=>rfl
 |f::r,h=>by
  obtain⟨h1,h2,h3⟩:=h f (by simp)
  rw[List.map_cons,List.map_cons,rfault_w h1 h2 h3,map_rfault fun g hg=>h g (List.mem_cons_of_mem _ hg)]
theorem nums_of {x:Acx} (h:numsB x=true):numB x.node=true/\numB x.img=true/\numB x.dev=true/\numB x.con=true:=by
 unfold numsB at h
 simpa using h
theorem line_split {x:Acx} {s:Bs} (h:lineS x=some s) (h3:(32:UInt8)∉swapB 10 124 x.txt) (h0:(wAct ([],false) x).1≠[]):splitL 32 s=(wAct ([],false) x).1:=by
 rw[line_eq h]
 exact splitL_join 32 h0 (Nc.act (.inr rfl) (w:=([],false)) (fun s hs=>by cases hs) x h3)
theorem wordN_1:wordN sTick=1:=by decide
theorem wordN_2:wordN sInduct=2:=by decide
theorem wordN_3:wordN sMessage=3:=by decide
theorem wordN_4:wordN sVerdict=4:=by decide
theorem wordN_5:wordN (revN 1)=5:=by decide
theorem wordN_6:wordN (revN 2)=6:=by decide
theorem wordN_7:wordN (revN 3)=7:=by decide
theorem wordN_8:wordN (revN 4)=8:=by decide
theorem wordN_9:wordN (revN 5)=9:=by decide
theorem wordN_10:wordN sBreak=10:=by decide
theorem wordN_11:wordN sRepair=11:=by decide
theorem wordN_12:wordN sLoad=12:=by decide
theorem wordN_13:wordN sUnload=13:=by decide
theorem wordN_14:wordN sPick=14:=by decide
theorem wordN_15:wordN sOffline=15:=by decide
theorem wordN_16:wordN sOnline=16:=by decide
theorem wordN_17:wordN sDepart=17:=by decide
theorem wordN_18:wordN sCrash=18:=by decide
theorem guess_2 {x:Acx} (hk:x.k=2) (ho:x=only x) (hb:bodyB x=true) {s:Bs} (h:lineS x=some s):guessS s=x:=by
 have hx:x=_:=ho
 unfold only at hx
 rw[if_neg (by omega),if_pos (by omega),hk] at hx
 have ht:x.txt=[]:=by rw[hx];rfl
 have hw:(wAct ([],false) x).1=[sInduct,x.plt.fmt,decW x.node]:=by
  unfold wAct
  rw[if_neg (by omega),if_pos hk]
  rfl
 have hs:=line_split h (by rw[ht];decide) (by rw[hw];simp)
 rw[hw] at hs
 unfold bodyB at hb
 rw[if_neg (by omega),if_neg (by omega),if_neg (by omega),if_neg (by omega),if_pos (by omega),Bool.and_eq_true] at hb
 obtain⟨hp,hn⟩:=hb
 obtain⟨n1,n2,n3,n4⟩:=nums_of hn
 unfold guessS guessW
 rw[hs]
 simp only[List.getD_cons_zero,List.getD_cons_succ,wordN_2]
 rw[plt_back hp,rval_dec n1]
 exact hx.symm
theorem guess_4 {x:Acx} (hk:x.k=4) (ho:x=only x) (hb:bodyB x=true) {s:Bs} (h:lineS x=some s):guessS s=x:=by
 have hx:x=_:=ho
 unfold only at hx
 rw[if_neg (by omega),if_neg (by omega),if_neg (by omega),if_pos (by omega),hk] at hx
 have ht:x.txt=[]:=by rw[hx];rfl
 have hw:(wAct ([],false) x).1=[sVerdict,decW x.img,if x.clr then sClear else sAlarm]:=by
  unfold wAct
  rw[if_neg (by omega),if_neg (by omega),if_neg (by omega),if_pos hk]
  rfl
 have hs:=line_split h (by rw[ht];decide) (by rw[hw];simp)
 rw[hw] at hs
 unfold bodyB at hb
 rw[if_neg (by omega),if_neg (by omega),if_neg (by omega),if_neg (by omega),if_neg (by omega)] at hb
 obtain⟨n1,n2,n3,n4⟩:=nums_of hb
 unfold guessS guessW
 rw[hs]
 simp only[List.getD_cons_zero,List.getD_cons_succ,wordN_4]
 rw[rval_dec n2]
 conv=>rhs;rw[hx]
 cases x.clr<;>rfl
theorem guess_6 {x:Acx} (hk:x.k=6) (ho:x=only x) (hb:bodyB x=true) {s:Bs} (h:lineS x=some s):guessS s=x:=by
 have hx:x=_:=ho
 unfold only at hx
 rw[if_neg (by omega),if_neg (by omega),if_neg (by omega),if_neg (by omega),if_neg (by omega),if_pos (by omega),hk] at hx
 have ht:x.txt=[]:=by rw[hx];rfl
 have hw:(wAct ([],false) x).1=[sBreak,decW x.node]:=by
  unfold wAct
  rw[if_neg (by omega),if_neg (by omega),if_neg (by omega),if_neg (by omega),if_neg (by omega),if_pos hk]
  rfl
 have hs:=line_split h (by rw[ht];decide) (by rw[hw];simp)
 rw[hw] at hs
 unfold bodyB at hb
 rw[if_neg (by omega),if_neg (by omega),if_neg (by omega),if_neg (by omega),if_neg (by omega)] at hb
 obtain⟨n1,n2,n3,n4⟩:=nums_of hb
 unfold guessS guessW
 rw[hs]
 simp only[List.getD_cons_zero,List.getD_cons_succ,wordN_10]
 rw[rval_dec n1]
 exact hx.symm
theorem guess_7 {x:Acx} (hk:x.k=7) (ho:x=only x) (hb:bodyB x=true) {s:Bs} (h:lineS x=some s):guessS s=x:=by
 have hx:x=_:=ho
 unfold only at hx
 rw[if_neg (by omega),if_neg (by omega),if_neg (by omega),if_neg (by omega),if_neg (by omega),if_pos (by omega),hk] at hx
 have ht:x.txt=[]:=by rw[hx];rfl
 have hw:(wAct ([],false) x).1=[sRepair,decW x.node]:=by
  unfold wAct
  rw[if_neg (by omega),if_neg (by omega),if_neg (by omega),if_neg (by omega),if_neg (by omega),if_neg (by omega),if_pos hk]
  rfl
 have hs:=line_split h (by rw[ht];decide) (by rw[hw];simp)
 rw[hw] at hs
 unfold bodyB at hb
 rw[if_neg (by omega),if_neg (by omega),if_neg (by omega),if_neg (by omega),if_neg (by omega)] at hb
 obtain⟨n1,n2,n3,n4⟩:=nums_of hb
 unfold guessS guessW
 rw[hs]
 simp only[List.getD_cons_zero,List.getD_cons_succ,wordN_11]
 rw[rval_dec n1]
 exact hx.symm
theorem guess_8 {x:Acx} (hk:x.k=8) (ho:x=only x) (hb:bodyB x=true) {s:Bs} (h:lineS x=some s):guessS s=x:=by
 have hx:x=_:=ho
 unfold only at hx
 rw[if_neg (by omega),if_neg (by omega),if_neg (by omega),if_neg (by omega),if_neg (by omega),if_neg (by omega),if_pos (by omega),hk] at hx
 have ht:x.txt=[]:=by rw[hx];rfl
 have hw:(wAct ([],false) x).1=[sLoad,decW x.dev,x.plt.fmt,decW x.node,decW x.con]:=by
  unfold wAct
  rw[if_neg (by omega),if_neg (by omega),if_neg (by omega),if_neg (by omega),if_neg (by omega),if_neg (by omega),if_neg (by omega),if_pos hk]
  rfl
 have hs:=line_split h (by rw[ht];decide) (by rw[hw];simp)
 rw[hw] at hs
 unfold bodyB at hb
 rw[if_neg (by omega),if_neg (by omega),if_neg (by omega),if_neg (by omega),if_pos (by omega),Bool.and_eq_true] at hb
 obtain⟨hp,hn⟩:=hb
 obtain⟨n1,n2,n3,n4⟩:=nums_of hn
 unfold guessS guessW
 rw[hs]
 simp only[List.getD_cons_zero,List.getD_cons_succ,wordN_12]
 rw[plt_back hp,rval_dec n1,rval_dec n3,rval_dec n4]
 exact hx.symm
theorem guess_9 {x:Acx} (hk:x.k=9) (ho:x=only x) (hb:bodyB x=true) {s:Bs} (h:lineS x=some s):guessS s=x:=by
 have hx:x=_:=ho
 unfold only at hx
 rw[if_neg (by omega),if_neg (by omega),if_neg (by omega),if_neg (by omega),if_neg (by omega),if_neg (by omega),if_neg (by omega),if_pos (by omega),hk] at hx
 have ht:x.txt=[]:=by rw[hx];rfl
 have hw:(wAct ([],false) x).1=[sUnload,decW x.dev,x.plt.fmt,decW x.con]:=by
  unfold wAct
  rw[if_neg (by omega),if_neg (by omega),if_neg (by omega),if_neg (by omega),if_neg (by omega),if_neg (by omega),if_neg (by omega),if_neg (by omega),if_pos hk]
  rfl
 have hs:=line_split h (by rw[ht];decide) (by rw[hw];simp)
 rw[hw] at hs
 unfold bodyB at hb
 rw[if_neg (by omega),if_neg (by omega),if_neg (by omega),if_neg (by omega),if_pos (by omega),Bool.and_eq_true] at hb
 obtain⟨hp,hn⟩:=hb
 obtain⟨n1,n2,n3,n4⟩:=nums_of hn
 unfold guessS guessW
 rw[hs]
 simp only[List.getD_cons_zero,List.getD_cons_succ,wordN_13]
 rw[plt_back hp,rval_dec n3,rval_dec n4]
 exact hx.symm
theorem guess_10 {x:Acx} (hk:x.k=10) (ho:x=only x) (hb:bodyB x=true) {s:Bs} (h:lineS x=some s):guessS s=x:=by
 have hx:x=_:=ho
 unfold only at hx
 rw[if_neg (by omega),if_pos (by omega),hk] at hx
 have ht:x.txt=[]:=by rw[hx];rfl
 have hw:(wAct ([],false) x).1=[sPick,x.plt.fmt,decW x.node]:=by
  unfold wAct
  rw[if_neg (by omega),if_neg (by omega),if_neg (by omega),if_neg (by omega),if_neg (by omega),if_neg (by omega),if_neg (by omega),if_neg (by omega),if_neg (by omega),if_pos hk]
  rfl
 have hs:=line_split h (by rw[ht];decide) (by rw[hw];simp)
 rw[hw] at hs
 unfold bodyB at hb
 rw[if_neg (by omega),if_neg (by omega),if_neg (by omega),if_neg (by omega),if_pos (by omega),Bool.and_eq_true] at hb
 obtain⟨hp,hn⟩:=hb
 obtain⟨n1,n2,n3,n4⟩:=nums_of hn
 unfold guessS guessW
 rw[hs]
 simp only[List.getD_cons_zero,List.getD_cons_succ,wordN_14]
 rw[plt_back hp,rval_dec n1]
 exact hx.symm
theorem guess_11 {x:Acx} (hk:x.k=11) (ho:x=only x) (hb:bodyB x=true) {s:Bs} (h:lineS x=some s):guessS s=x:=by
 have hx:x=_:=ho
 unfold only at hx
 rw[if_neg (by omega),if_neg (by omega),if_neg (by omega),if_neg (by omega),if_neg (by omega),if_neg (by omega),if_neg (by omega),if_neg (by omega),if_pos (by omega),hk] at hx
 have ht:x.txt=[]:=by rw[hx];rfl
 have hw:(wAct ([],false) x).1=[sOffline,decW x.dev]:=by
  unfold wAct
  rw[if_neg (by omega),if_neg (by omega),if_neg (by omega),if_neg (by omega),if_neg (by omega),if_neg (by omega),if_neg (by omega),if_neg (by omega),if_neg (by omega),if_neg (by omega),if_pos hk]
  rfl
 have hs:=line_split h (by rw[ht];decide) (by rw[hw];simp)
 rw[hw] at hs
 unfold bodyB at hb
 rw[if_neg (by omega),if_neg (by omega),if_neg (by omega),if_neg (by omega),if_neg (by omega)] at hb
 obtain⟨n1,n2,n3,n4⟩:=nums_of hb
 unfold guessS guessW
 rw[hs]
 simp only[List.getD_cons_zero,List.getD_cons_succ,wordN_15]
 rw[rval_dec n3]
 exact hx.symm
theorem guess_12 {x:Acx} (hk:x.k=12) (ho:x=only x) (hb:bodyB x=true) {s:Bs} (h:lineS x=some s):guessS s=x:=by
 have hx:x=_:=ho
 unfold only at hx
 rw[if_neg (by omega),if_neg (by omega),if_neg (by omega),if_neg (by omega),if_neg (by omega),if_neg (by omega),if_neg (by omega),if_neg (by omega),if_pos (by omega),hk] at hx
 have ht:x.txt=[]:=by rw[hx];rfl
 have hw:(wAct ([],false) x).1=[sOnline,decW x.dev]:=by
  unfold wAct
  rw[if_neg (by omega),if_neg (by omega),if_neg (by omega),if_neg (by omega),if_neg (by omega),if_neg (by omega),if_neg (by omega),if_neg (by omega),if_neg (by omega),if_neg (by omega),if_neg (by omega),if_pos hk]
  rfl
 have hs:=line_split h (by rw[ht];decide) (by rw[hw];simp)
 rw[hw] at hs
 unfold bodyB at hb
 rw[if_neg (by omega),if_neg (by omega),if_neg (by omega),if_neg (by omega),if_neg (by omega)] at hb
 obtain⟨n1,n2,n3,n4⟩:=nums_of hb
 unfold guessS guessW
 rw[hs]
 simp only[List.getD_cons_zero,List.getD_cons_succ,wordN_16]
 rw[rval_dec n3]
 exact hx.symm
theorem guess_13 {x:Acx} (hk:x.k=13) (ho:x=only x) (hb:bodyB x=true) {s:Bs} (h:lineS x=some s):guessS s=x:=by
 have hx:x=_:=ho
 unfold only at hx
 rw[if_neg (by omega),if_neg (by omega),if_neg (by omega),if_neg (by omega),if_neg (by omega),if_neg (by omega),if_neg (by omega),if_neg (by omega),if_neg (by omega),if_pos (by omega),hk] at hx
 have ht:x.txt=[]:=by rw[hx];rfl
 have hw:(wAct ([],false) x).1=[sDepart,x.flt.fmt]:=by
  unfold wAct
  rw[if_neg (by omega),if_neg (by omega),if_neg (by omega),if_neg (by omega),if_neg (by omega),if_neg (by omega),if_neg (by omega),if_neg (by omega),if_neg (by omega),if_neg (by omega),if_neg (by omega),if_neg (by omega),if_pos hk]
  rfl
 have hs:=line_split h (by rw[ht];decide) (by rw[hw];simp)
 rw[hw] at hs
 unfold bodyB at hb
 rw[if_neg (by omega),if_neg (by omega),if_neg (by omega),if_pos (by omega)] at hb
 unfold guessS guessW
 rw[hs]
 simp only[List.getD_cons_zero,List.getD_cons_succ,wordN_17]
 rw[flt_back hb]
 exact hx.symm
theorem guess_14 {x:Acx} (hk:x.k=14) (ho:x=only x) (hb:bodyB x=true) {s:Bs} (h:lineS x=some s):guessS s=x:=by
 have hx:x=_:=ho
 unfold only at hx
 rw[if_neg (by omega),if_neg (by omega),if_neg (by omega),if_neg (by omega),if_neg (by omega),if_neg (by omega),if_neg (by omega),if_neg (by omega),if_neg (by omega),if_neg (by omega),hk] at hx
 have ht:x.txt=[]:=by rw[hx];rfl
 have hw:(wAct ([],false) x).1=[sCrash]:=by
  unfold wAct
  rw[if_neg (by omega),if_neg (by omega),if_neg (by omega),if_neg (by omega),if_neg (by omega),if_neg (by omega),if_neg (by omega),if_neg (by omega),if_neg (by omega),if_neg (by omega),if_neg (by omega),if_neg (by omega),if_neg (by omega)]
  rfl
 have hs:=line_split h (by rw[ht];decide) (by rw[hw];simp)
 rw[hw] at hs
 unfold bodyB at hb
 rw[if_neg (by omega),if_neg (by omega),if_neg (by omega),if_neg (by omega),if_neg (by omega)] at hb
 obtain⟨n1,n2,n3,n4⟩:=nums_of hb
 unfold guessS guessW
 rw[hs]
 simp only[List.getD_cons_zero,List.getD_cons_succ,wordN_18]
 exact hx.symm
theorem guess_3 {x:Acx} (hk:x.k=3) (ho:x=only x) (hb:bodyB x=true) {s:Bs} (h:lineS x=some s):guessS s=x:=by
 have hx:x=msgA x.txt:=by
  conv=>lhs;rw[ho]
  unfold only
  rw[if_neg (by omega),if_neg (by omega),if_pos (by omega),hk]
  rfl
 have ht:txtB x.txt=true:=by
  unfold bodyB at hb
  rw[if_neg (by omega),if_pos hk] at hb
  exact hb
 have hbar:(124:UInt8)∉x.txt:=fun hm=>by
  unfold txtB at ht
  rw[List.all_eq_true] at ht
  have h1:=of_decide_eq_true (ht 124 hm)
  have h2:(124:UInt8).toNat=124:=rfl
  omega
 have hl:=line_msg ht
 rw[<-hx,h] at hl
 have hs':=Option.some.inj hl
 unfold guessS guessW
 rw[hs',splitL_cons msg_no]
 simp only[List.getD_cons_zero,wordN_3]
 have e:(sMessage++32::swapB 10 124 x.txt).drop (min (sMessage++32::swapB 10 124 x.txt).length 8)=swapB 10 124 x.txt:=by
  rw[Nat.min_eq_right (by simp[sMessage])]
  rfl
 rw[e,swap_back2 hbar]
 exact hx.symm
theorem guess_5 {x:Acx} (hk:x.k=5) (ho:x=only x) (hb:bodyB x=true) {s:Bs} (h:lineS x=some s):guessS s=x:=by
 have hx:x={A0 5 with rev:=x.rev}:=by
  conv=>lhs;rw[ho]
  unfold only
  rw[if_neg (by omega),if_neg (by omega),if_neg (by omega),if_neg (by omega),if_pos hk,hk]
 have ht:x.txt=[]:=by rw[hx];rfl
 unfold bodyB at hb
 rw[if_neg (by omega),if_neg (by omega),if_pos hk] at hb
 unfold revB at hb
 simp only[Bool.and_eq_true,decide_eq_true_eq,Bool.or_eq_true] at hb
 obtain⟨hr,hf,hn,ha⟩:=hb
 have hw:(wAct ([],false) x).1=if 4<=x.rev.k then[revN x.rev.k,x.rev.flt.fmt] else[revN x.rev.k,x.rev.flt.fmt,decW x.rev.amt]:=by
  unfold wAct
  rw[if_neg (by omega),if_neg (by omega),if_neg (by omega),if_neg (by omega),if_pos hk]
  unfold wRev
  rw[if_pos hr]
  split<;>rfl
 have hs:=line_split h (by rw[ht];decide) (by rw[hw];split<;>simp)
 rw[hw] at hs
 unfold guessS guessW
 rw[hs]
 have hkk:x.rev.k=1\/x.rev.k=2\/x.rev.k=3\/x.rev.k=4\/x.rev.k=5:=by omega
 have hrr:x.rev=⟨x.rev.k,x.rev.amt,x.rev.flt⟩:=rfl
 rcases hkk with c|c|c|c|c
 ·rw[if_neg (by omega),c]
  simp only[List.getD_cons_zero,List.getD_cons_succ,wordN_5]
  rw[flt_back hf,rval_dec hn]
  conv=>rhs;rw[hx,hrr,c]
 ·rw[if_neg (by omega),c]
  simp only[List.getD_cons_zero,List.getD_cons_succ,wordN_6]
  rw[flt_back hf,rval_dec hn]
  conv=>rhs;rw[hx,hrr,c]
 ·rw[if_neg (by omega),c]
  simp only[List.getD_cons_zero,List.getD_cons_succ,wordN_7]
  rw[flt_back hf,rval_dec hn]
  conv=>rhs;rw[hx,hrr,c]
 ·rw[if_pos (by omega),c]
  simp only[List.getD_cons_zero,List.getD_cons_succ,wordN_8]
  rw[flt_back hf]
  conv=>rhs;rw[hx,hrr,c,show x.rev.amt=0 from by omega]
 ·rw[if_pos (by omega),c]
  simp only[List.getD_cons_zero,List.getD_cons_succ,wordN_9]
  rw[flt_back hf]
  conv=>rhs;rw[hx,hrr,c,show x.rev.amt=0 from by omega]
theorem guess_1 {x:Acx} (hk:x.k=1) (ho:x=only x) (hb:bodyB x=true) {s:Bs} (h:lineS x=some s):guessS s=x:=by
 have hx:x={A0 1 with mv:=x.mv,gl:=x.gl,lost:=x.lost}:=by
  conv=>lhs;rw[ho]
  unfold only
  rw[if_pos hk,hk]
 have ht:x.txt=[]:=by rw[hx];rfl
 unfold bodyB at hb
 rw[if_pos hk,Bool.and_eq_true] at hb
 have m1:∀f∈x.mv,flawB 1 2 f=true:=List.all_eq_true.1 hb.1
 have g1:∀f∈x.gl,flawB 3 6 f=true:=List.all_eq_true.1 hb.2
 have hall:∀f∈x.mv++x.gl,(1<=f.k/\f.k<=6)/\numB f.n=true/\numB f.w=true:=by
  intro f hf
  rcases List.mem_append.1 hf with hf|hf
  ·obtain⟨a,b,c,d⟩:=flawB_of (m1 f hf);exact⟨⟨by omega,by omega⟩,c,d⟩
  ·obtain⟨a,b,c,d⟩:=flawB_of (g1 f hf);exact⟨⟨by omega,by omega⟩,c,d⟩
 have f1:lowF (x.mv++x.gl)=x.mv:=by
  unfold lowF
  rw[List.filter_append,filter_all fun f hf=>decide_eq_true (flawB_of (m1 f hf)).2.1,filter_no fun f hf=>decide_eq_false (by have:=(flawB_of (g1 f hf)).1;omega),List.append_nil]
 have f2:highF (x.mv++x.gl)=x.gl:=by
  unfold highF
  rw[List.filter_append,filter_no fun f hf=>by rw[decide_eq_true (flawB_of (m1 f hf)).2.1];rfl,filter_all fun f hf=>by rw[decide_eq_false (by have:=(flawB_of (g1 f hf)).1;omega)];rfl,List.nil_append]
 have hq:=h
 unfold lineS at hq
 split at hq
 case isFalse=>cases hq
 rename_i hc
 have hbad:=hc.2.2.2
 have hw0:wAct ([],false) x=wFaults 3 6 x.gl (wFaults 1 2 x.mv (if x.lost then wWord (wWord ([],false) sTick) sLost else wWord ([],false) sTick)):=by unfold wAct;rw[if_pos hk]
 have hw:(wAct ([],false) x).1=(if x.lost then[sTick,sLost] else[sTick])++(x.mv++x.gl).map wFault:=by
  rw[hw0] at hbad ⊢
  obtain⟨a1,a2,a3⟩:=wFaults_ok hbad
  obtain⟨b1,b2,b3⟩:=wFaults_ok a2
  rw[a3,b3,List.map_append]
  cases x.lost<;>simp[wWord]
 have hs:=line_split h (by rw[ht];decide) (by rw[hw];cases x.lost<;>simp)
 rw[hw] at hs
 unfold guessS guessW
 rw[hs]
 conv=>rhs;rw[hx]
 cases hl:x.lost with
 |true=>
  rw[if_pos rfl]
  simp only[List.cons_append,List.nil_append,List.getD_cons_zero,wordN_1,List.drop_succ_cons,List.drop_zero]
  unfold gTick
  rw[if_pos List.head?_cons,List.tail_cons,map_rfault hall,f1,f2]
 |false=>
  rw[if_neg (by decide)]
  simp only[List.cons_append,List.nil_append,List.getD_cons_zero,wordN_1,List.drop_succ_cons,List.drop_zero]
  unfold gTick
  have hne:¬((x.mv++x.gl).map wFault).head?=some sLost:=by
   cases x.mv++x.gl with
   |nil=>simp
   |cons f l=>simp[wFault_lost]
  rw[if_neg hne,map_rfault hall,f1,f2]
  rfl
theorem guess_line {x:Acx} {s:Bs} (h:lineS x=some s):guessS s=x:=by
 have hp:plainA x=true:=by rw[plainA_line,h];rfl
 unfold plainA at hp
 simp only[Bool.and_eq_true,decide_eq_true_eq] at hp
 obtain⟨⟨h1,h2⟩,ho,hb⟩:=hp
 have hk:x.k=1\/x.k=2\/x.k=3\/x.k=4\/x.k=5\/x.k=6\/x.k=7\/x.k=8\/x.k=9\/x.k=10\/x.k=11\/x.k=12\/x.k=13\/x.k=14:=by omega
 rcases hk with hk|hk|hk|hk|hk|hk|hk|hk|hk|hk|hk|hk|hk|hk
 ·exact guess_1 hk ho hb h
 ·exact guess_2 hk ho hb h
 ·exact guess_3 hk ho hb h
 ·exact guess_4 hk ho hb h
 ·exact guess_5 hk ho hb h
 ·exact guess_6 hk ho hb h
 ·exact guess_7 hk ho hb h
 ·exact guess_8 hk ho hb h
 ·exact guess_9 hk ho hb h
 ·exact guess_10 hk ho hb h
 ·exact guess_11 hk ho hb h
 ·exact guess_12 hk ho hb h
 ·exact guess_13 hk ho hb h
 ·exact guess_14 hk ho hb h
theorem rparse_eq (s:Bs):rparseS s=parseS s:=by
 unfold rparseS
 by_cases c:lineS (guessS s)=some s
 ·rw[if_pos c,line_parse c]
 ·rw[if_neg c]
  cases hp:parseS s with
  |none=>rfl
  |some x=>
   have h1:=parse_line hp
   rw[guess_line h1] at c
   exact absurd h1 c
open Go.Scr
theorem split_step {c:UInt8} {s:Bs} {fr i:Nat} {out:List Bs} (h:splitL c s=out++splitL c (s.drop fr)) (hf:fr<=i) (hi:i<s.length) (hno:c∉(s.take i).drop fr) (hc:s.getD i 0=c):
  splitL c s=(out++[(s.take i).drop fr])++splitL c (s.drop (i+1)):=by
 have e:s.drop fr=(s.take i).drop fr++c::s.drop (i+1):=by
  have e1:s=s.take i++c::s.drop (i+1):=by
   have h1:s.drop i=c::s.drop (i+1):=by
    rw[List.drop_eq_getElem_cons hi]
    congr 1
    rw[List.getD_eq_getElem?_getD,List.getElem?_eq_getElem hi] at hc
    exact hc
   rw[<-h1,List.take_append_drop]
  conv=>lhs;rw[e1]
  rw[List.drop_append_of_le_length (by rw[List.length_take];omega)]
 rw[h,e,splitL_cons hno]
 simp
theorem split_no {c:UInt8} {s:Bs} {fr i:Nat} (hi:i<s.length) (hf:fr<=i) (hno:c∉(s.take i).drop fr) (hc:s.getD i 0≠c):c∉(s.take (i+1)).drop fr:=by
 rw[take_snoc hi,List.drop_append_of_le_length (by rw[List.length_take];omega)]
 simp only[List.mem_append,List.mem_singleton,not_or]
 exact⟨hno,fun h=>hc h.symm⟩
theorem rsplit_sat (s:Bs) (c:UInt8) (hs:s.length<=1000000):SatG Tryz.prog tab 53 [] [S (strOf s),Uc c] [] (.sl (strs (splitL c s)) false):=by
 generalize hT:splitL c s=T
 refine uFN Tryz.func53 Tryz.ntmps53 ?_;intro w e X hC
 repeat refine uA ?_
 refine uW ?_
 refine awp_loopW (fun i:Nat×Nat×Nat×List Bs=>⟨[(0,S (strOf s)),(1,Uc c),(5, .slO 105 2 0 i.2.2.2.length),(6,I i.2.1),(7,I i.2.2.1)],[(105,some (2, .own 9 1 (strs i.2.2.2)))],i.1⟩) (fun i=>i.2.1<=i.2.2.1/\i.2.2.1<=s.length/\i.2.2.2.length<=i.2.2.1/\c∉(s.take i.2.2.1).drop i.2.1/\splitL c s=i.2.2.2++splitL c (s.drop i.2.1)) (fun i=>s.length - i.2.2.1) (_,0,0,[]) ⟨Nat.le_refl _,Nat.zero_le _,Nat.zero_le _,by simp,by simp⟩ (uKF) ?_
 rintro⟨ck,fr,i,out⟩ ⟨h1,h2,h5,h3,h4⟩
 simp only at h1 h2 h3 h4 h5
 refine uA ?_
 refine uW ?_;refine condP _ rfl (fun h=>?_) (fun h=>?_)
 ·have hlt:i<s.length:=by omega
  have hu:=u8_eq (s.getD i 0) c
  by_cases c0:s.getD i 0=c
  ·have hst:=split_step h4 h1 hlt h3 c0
   rw[decide_eq_true c0] at hu
   refine uA1 @hu ?_
   have hln:(out++[(s.take i).drop fr]).length=out.length+1:=by simp
   refine uT ?_
   repeat refine uA ?_
   refine⟨(_,i+1,i+1,out++[(s.take i).drop fr]),⟨by simp only;omega,by simp only;omega,by simp only;omega,by simp only;rw[List.drop_of_length_le (by rw[List.length_take];omega)];simp,hst⟩,by simp only;omega, .of (Nat.le_refl _) (uHF1 @hln) (uWF1 @hln)⟩
  ·rw[decide_eq_false c0] at hu
   refine uA1 @hu ?_
   refine uF ?_
   repeat refine uA ?_
   refine⟨(_,fr,i+1,out),⟨by simp only;omega,by simp only;omega,by simp only;omega,split_no hlt h1 h3 c0,h4⟩,by simp only;omega,uKF⟩
 ·refine awp_exit ?_
  have:i=s.length:=by omega
  subst this
  rw[List.take_length] at h3
  rw[splitL_word h3,hT] at h4
  rw[h4]
  repeat refine uA ?_
  refine awp_ret ?_;rw[show Tryz.f53.results.toList=[.tmp 4] from rfl];first|refine uRN ?_|exact uRM
open Go.Scr
theorem rval_no {s:Bs} (h:¬(s≠[]/\s.length<=6/\s.all digit=true/\¬(s.getD 0 0=48/\1<s.length))):rval s=-1:=by unfold rval;rw[if_neg h]
theorem rnum_sat (s:Bs) (hs:s.length<=1000000):SatG Tryz.prog tab 99 [] [S (strOf s)] [] (I (rval s)):=by
 refine uFN Tryz.func99 Tryz.ntmps99 ?_;intro w e X hC
 repeat refine uA ?_
 refine uW ?_
 refine awp_loopW (fun i:Nat×Nat=>⟨[(0,S (strOf s)),(3,I (numL 0 (s.take i.2):Nat)),(4,I i.2)],[],i.1⟩) (fun i=>i.2<=s.length/\i.2<=6/\(s.take i.2).all digit=true) (fun i=>s.length - i.2) (_,0) ⟨Nat.zero_le _,Nat.zero_le _,rfl⟩ (uKF) ?_
 rintro⟨ck,i⟩ ⟨hi,hi6,hj⟩
 simp only at hi hi6 hj
 have hn:numL 0 (s.take i)<10000000:=by
  have h1:=numL_lt (s.take i) 0 (fun c hc=>List.all_eq_true.1 hj c hc)
  rw[List.length_take,Nat.min_eq_left hi,Nat.zero_add,Nat.one_mul] at h1
  exact Nat.lt_of_lt_of_le h1 (Nat.pow_le_pow_right (by decide) (by omega:i<=7))
 refine uA ?_
 refine uW ?_;refine condP _ rfl (fun h=>?_) (fun h=>?_)
 ·have hlt:i<s.length:=by omega
  have hno:digit (s.getD i 0)=false->I (rval s)=I (-1):=fun h=>by rw[rval_no (fun h'=>by rw[not_all hlt h] at h';exact absurd h'.2.2.1 (by decide))]
  by_cases c0:(s.getD i 0).toNat<48
  ·have e0:=uDt ((((s.getD i 0).toNat:Nat):Int)<48)
   rw[hno (decide_eq_false (by omega))]
   repeat refine uA1 @e0 ?_
   refine uT ?_
   repeat refine uA ?_
   (refine awp_ret (ret1 uRT ?_);try rfl)
  ·have e0:=uDf ((((s.getD i 0).toNat:Nat):Int)<48)
   by_cases c1:57<(s.getD i 0).toNat
   ·have e1:=uDt (57<(((s.getD i 0).toNat:Nat):Int))
    rw[hno (decide_eq_false (by omega))]
    repeat refine uA1 (uI @e0 @e1) ?_
    refine uT ?_
    repeat refine uA ?_
    (refine awp_ret (ret1 uRT ?_);try rfl)
   ·have e1:=uDf (57<(((s.getD i 0).toNat:Nat):Int))
    have hdg:digit (s.getD i 0)=true:=decide_eq_true ⟨by omega,by omega⟩
    by_cases c2:5<i
    ·have e2:=uDt (5<(i:Int))
     rw[rval_no (fun h'=>by have:=h'.2.1;omega)]
     repeat refine uA1 (uI @e0 (uI @e1 @e2)) ?_
     refine uT ?_
     repeat refine uA ?_
     (refine awp_ret (ret1 uRT ?_);try rfl)
    ·have e2:=uDf (5<(i:Int))
     have t1:=take_snoc hlt
     have t2:=numL_snoc 0 (s.take i) (s.getD i 0)
     rw[<-t1] at t2
     have hw:=wrap_dig hdg
     have t3:((numL 0 (s.take (i+1)):Nat):Int)=10*(numL 0 (s.take i):Nat)+(((s.getD i 0).toNat:Int) - 48):=by omega
     repeat refine uA1 (uI @e0 (uI @e1 @e2)) ?_
     refine uF ?_
     repeat refine uA1 @hw ?_
     refine⟨(_,i+1),⟨by simp only;omega,by simp only;omega,take_all hlt hj hdg⟩,by simp only;omega, .of (Nat.le_refl _) uHF (uWF1 @t3)⟩
 ·refine awp_exit ?_
  have:i=s.length:=by omega
  subst this
  rw[List.take_length] at hj hn ⊢
  by_cases c0:s.length=0
  ·have e0:=uDt ((s.length:Int)=0)
   rw[rval_no (fun h'=>h'.1 (List.eq_nil_of_length_eq_zero c0))]
   repeat refine uA1 @e0 ?_
   refine uT ?_
   repeat refine uA ?_
   (refine awp_ret (ret1 uRT ?_);try rfl)
  ·have e0:=uDf ((s.length:Int)=0)
   have hne:s≠[]:=fun h=>c0 (by rw[h];rfl)
   have h0:0<s.length:=by omega
   have e48:decide ((((s.getD 0 0).toNat:Nat):Int)=48)=decide (s.getD 0 0=48):=u8_eq _ 48
   by_cases c1:s.getD 0 0=48
   ·by_cases c2:1<s.length
    ·have e2:=uDt (1<(s.length:Int))
     rw[decide_eq_true c1] at e48
     rw[rval_no (fun h'=>h'.2.2.2 ⟨c1,c2⟩)]
     repeat refine uA1 (uI @e0 (uI @e48 @e2)) ?_
     refine uT ?_
     repeat refine uA ?_
     (refine awp_ret (ret1 uRT ?_);try rfl)
    ·have e2:=uDf (1<(s.length:Int))
     rw[decide_eq_true c1] at e48
     rw[show rval s=(numL 0 s:Nat) from if_pos ⟨hne,hi6,hj,fun h=>c2 h.2⟩]
     repeat refine uA1 (uI @e0 (uI @e48 @e2)) ?_
     refine uF ?_
     repeat refine uA ?_
     (refine awp_ret (ret1 uRT ?_);try rfl)
   ·rw[decide_eq_false c1] at e48
    rw[show rval s=(numL 0 s:Nat) from if_pos ⟨hne,hi6,hj,fun h=>c1 h.1⟩]
    repeat refine uA1 (uI @e0 @e48) ?_
    refine uF ?_
    repeat refine uA ?_
    (refine awp_ret (ret1 uRT ?_);try rfl)
theorem rat_sat (l:List Bs) (i:Nat) (hl:l.length<=1000000) (hi:i<=1000000):SatG Tryz.prog tab 97 [] [.sl (strs l) false,I i] [] (S (strOf (l.getD i []))):=by
 refine uFN Tryz.func97 Tryz.ntmps97 ?_;intro w e X hC
 repeat refine uA ?_
 refine uW ?_;refine condP _ rfl (fun h=>?_) (fun h=>?_)
 ·have hlt:i<l.length:=by omega
  repeat refine uA1 (strs_getD hlt) ?_
  (refine awp_ret (ret1 uRT ?_);try rfl)
 ·have e:l.getD i []=[]:=by rw[List.getD_eq_getElem?_getD,List.getElem?_eq_none (by omega)];rfl
  rw[e]
  repeat refine uA ?_
  (refine awp_ret (ret1 uRT ?_);try rfl)
def wordsL:List Bs:=[faultN 1,faultN 2,faultN 3,faultN 4,faultN 5,faultN 6]
theorem rwords_sat:SatG Tryz.prog tab 74 [] [] [] (.sl (strs wordsL) false):=by
 refine uFN Tryz.func74 Tryz.ntmps74 ?_;intro w e X hC
 repeat refine uA ?_
 refine awp_ret ?_;rw[show Tryz.f74.results.toList=[.tmp 0] from rfl];first|refine uRN ?_|exact uRM
 rfl
theorem kind_at {s:Bs} {i:Nat} (hi:i<6) (h:wordsL.getD i []=s):kindOf s=i+1:=by
 have:i=0\/i=1\/i=2\/i=3\/i=4\/i=5:=by omega
 subst h
 rcases this with rfl|rfl|rfl|rfl|rfl|rfl<;>decide
theorem kind_no {s:Bs} (h:∀j,j<6->wordsL.getD j []≠s):kindOf s=0:=by
 unfold kindOf
 rw[if_neg fun e=>h 0 (by decide) e.symm,if_neg fun e=>h 1 (by decide) e.symm,if_neg fun e=>h 2 (by decide) e.symm,if_neg fun e=>h 3 (by decide) e.symm,if_neg fun e=>h 4 (by decide) e.symm,if_neg fun e=>h 5 (by decide) e.symm]
theorem rfault_sat (s:Bs) (hs:s.length<=1000000):SatG Tryz.prog tab 100 [] [S (strOf s)] [] (rfault s).av:=by
 have g1:=rsplit_sat s 58 hs
 have hlen:=splitL_len 58 s
 unfold rfault
 generalize splitL 58 s=p at*
 refine uFN Tryz.func100 Tryz.ntmps100 ?_;intro w e X hC
 repeat refine uA ?_
 refine uR ?_;intro K hK
 refine uH ?_
 refine callP uTS (g1) uTS uTS uTS ?_;refine uS ?_
 refine uH ?_
 refine hK _ ?_;clear hK K
 repeat refine uA ?_
 refine uW ?_;refine condP _ rfl (fun c0=>?_) (fun c0=>?_)
 ·rw[if_neg (fun h=>c0 (by omega))]
  repeat refine uA ?_
  refine awp_ret ?_;rw[show Tryz.f100.results.toList=[.cell 2 79] from rfl];first|refine uRN ?_|exact uRM
  rfl
 ·have hp:p.length=3:=by omega
  have gw:=rwords_sat
  obtain⟨a,b,c,rfl⟩:∃a b c,p=[a,b,c]:=by
   match p,hp with
   |[a,b,c],_=>exact⟨a,b,c,rfl⟩
  have ha:=hlen a (by simp)
  have hb:=hlen b (by simp)
  have hc:=hlen c (by simp)
  have v1:=rnum_sat b (by omega)
  have v2:=rnum_sat c (by omega)
  have w3:(strs wordsL).length=6:=rfl
  have e2:strs [a,b,c]=[S (strOf a),S (strOf b),S (strOf c)]:=rfl
  simp only[List.getD_cons_zero,List.getD_cons_succ]
  generalize hT:(if[a,b,c].length=3/\kindOf a≠0 then(⟨kindOf a,rval b,rval c⟩:Flaw) else W0)=T
  refine uR ?_;intro K hK
  refine uH ?_
  refine callP uTS (gw) uTS uTS uTS ?_;refine uS ?_
  refine uH ?_
  refine hK _ ?_;clear hK K
  refine uW ?_
  refine awp_loopW (fun i:Nat×Nat=>⟨[(2, .ptO 102 1 0 0 0),(3, .sl (strs [a,b,c]) false),(12, .sl (strs wordsL) false),(13,I 6),(14,I i.2)],[(102,some (1, .box [I 0,I 0,I 0]))],i.1⟩) (fun i=>i.2<=6/\∀j,j<i.2->wordsL.getD j []≠a) (fun i=>6 - i.2) (_,0) ⟨Nat.zero_le _,fun j hj=>absurd hj (Nat.not_lt_zero _)⟩ (.of (Nat.le_refl _) uHF (uWF1 @w3)) ?_
  rintro⟨ck,i⟩ ⟨hi,hj⟩
  simp only at hi hj
  refine uA ?_
  refine uW ?_;refine condP _ rfl (fun h=>?_) (fun h=>?_)
  ·have hlt:i<6:=by omega
   have hw:(strs wordsL).getD i .bad=S (strOf (wordsL.getD i [])):=strs_getD hlt
   by_cases c1:wordsL.getD i []=a
   ·have hk:=kind_at hlt c1
    have d1:decide (wordsL.getD i []=a)=true:=decide_eq_true c1
    rw[if_pos ⟨rfl,by omega⟩,hk] at hT
    rw[<-hT]
    generalize wordsL.getD i []=u at*
    repeat refine uA1 (uI @hw (uI @e2 (uI @d1 @w3))) ?_
    refine uT ?_
    refine uD1 @e2 ?_;intro K hK
    refine uH ?_
    refine callF uTS (v1) uTS uTS uTS ?_;refine uS ?_
    try refine uS1 @e2 ?_
    refine uH ?_
    refine callF uTS (v2) uTS uTS uTS ?_;refine uS ?_
    try refine uS1 @e2 ?_
    refine uH ?_
    refine hK _ ?_;clear hK K
    refine awp_ret ?_;rw[show Tryz.f100.results.toList=[.cell 2 79] from rfl];first|refine uRN ?_|exact uRM
    try rfl
   ·have d1:decide (wordsL.getD i []=a)=false:=decide_eq_false c1
    repeat refine uA1 (uI @hw (uI @e2 (uI @d1 @w3))) ?_
    refine uF ?_
    repeat refine uA ?_
    have hj2:∀j,j<i+1->wordsL.getD j []≠a:=fun j hj'=>by
     by_cases hji:j=i
     ·rw[hji];exact c1
     ·exact hj j (by omega)
    refine⟨(_,i+1),⟨by simp only;omega,hj2⟩,by simp only;omega,uKF⟩
  ·refine awp_exit ?_
   have:i=6:=by omega
   subst this
   rw[if_neg (fun h=>h.2 (kind_no hj))] at hT
   rw[<-hT]
   repeat refine uA ?_
   refine awp_ret ?_;rw[show Tryz.f100.results.toList=[.cell 2 79] from rfl];first|refine uRN ?_|exact uRM
   rfl
open Go.Scr
theorem rdes_sat (f:Flt) (h1:f.car.length<=1000000) (h2:f.suf.length<=1000000):SatG Tryz.prog tab 75 [] [Flt.av f] [] (S (strOf f.des)):=by
 have h0:=rfvalid_sat f h1 h2
 refine uFN Tryz.func75 Tryz.ntmps75 ?_;intro w e X hC
 repeat refine uA ?_
 cases c0:f.ok with
 |false=>
  have e:f.des=[]:=by unfold Flt.des;rw[c0];rfl
  rw[c0] at h0
  rw[e]
  refine uR ?_;intro K hK
  refine uH ?_
  refine callF uTS (h0) uTS uTS uTS ?_;refine uS ?_
  refine hK _ ?_;clear hK K
  refine uT ?_
  repeat refine uA ?_
  (refine awp_ret (ret1 uRT ?_);try rfl)
 |true=>
  obtain⟨q1,q2,q3,q4,q5,q6⟩:=fok c0
  have e:f.des=f.car++digs f.num.toNat 4++f.suf:=by unfold Flt.des;rw[c0];rfl
  have g1:=rdigits_sat f.num.toNat 4 (by omega) (by decide) (by decide)
  rw[show((f.num.toNat:Nat):Int)=f.num by omega] at g1
  have hl:(digs f.num.toNat 4).length=4:=digs_length _ _
  rw[c0] at h0
  rw[e]
  refine uR ?_;intro K hK
  refine uH ?_
  refine callF uTS (h0) uTS uTS uTS ?_;refine uS ?_
  refine hK _ ?_;clear hK K
  refine uF ?_
  refine uD ?_;intro K hK
  refine uH ?_
  refine callF uTS (g1) uTS uTS uTS ?_;refine uS ?_
  try refine uS ?_
  refine uH ?_
  refine hK _ ?_;clear hK K
  (refine awp_ret (ret1 uRT ?_);try rfl)
theorem rfformat_sat (f:Flt) (h1:f.car.length<=1000000) (h2:f.suf.length<=1000000):SatG Tryz.prog tab 42 [] [Flt.av f] [] (S (strOf f.fmt)):=by
 have h0:=rfvalid_sat f h1 h2
 have hd:=rdes_sat f h1 h2
 refine uFN Tryz.func42 Tryz.ntmps42 ?_;intro w e X hC
 repeat refine uA ?_
 cases c0:f.ok with
 |false=>
  have e:f.fmt=[]:=by unfold Flt.fmt;rw[c0];rfl
  rw[c0] at h0
  rw[e]
  refine uR ?_;intro K hK
  refine uH ?_
  refine callF uTS (h0) uTS uTS uTS ?_;refine uS ?_
  refine hK _ ?_;clear hK K
  refine uT ?_
  repeat refine uA ?_
  (refine awp_ret (ret1 uRT ?_);try rfl)
 |true=>
  obtain⟨q1,q2,q3,q4,q5,q6⟩:=fok c0
  have e:f.fmt=f.des++[47]++digs f.day.toNat 2:=by unfold Flt.fmt Flt.des;rw[c0];rfl
  have g1:=rdigits_sat f.day.toNat 2 (by omega) (by decide) (by decide)
  rw[show((f.day.toNat:Nat):Int)=f.day by omega] at g1
  have hl:(digs f.day.toNat 2).length=2:=digs_length _ _
  have hl2:f.des.length<=10:=by
   unfold Flt.des;rw[c0]
   simp only[if_true,List.length_append,digs_length];omega
  rw[c0] at h0
  rw[e]
  refine uR ?_;intro K hK
  refine uH ?_
  refine callF uTS (h0) uTS uTS uTS ?_;refine uS ?_
  refine hK _ ?_;clear hK K
  refine uF ?_
  refine uD1 @str_mk ?_;intro K hK
  refine uH ?_
  refine callF uTS (hd) uTS uTS uTS ?_;refine uS ?_
  try refine uS1 @str_mk ?_
  refine uH ?_
  refine callF uTS (g1) uTS uTS uTS ?_;refine uS ?_
  try refine uS1 @str_mk ?_
  refine uH ?_
  refine hK _ ?_;clear hK K
  (refine awp_ret (ret1 uRT ?_);try rfl)
theorem rfparse_9 (s:Bs) (c0:s.length=9):SatG Tryz.prog tab 98 [] [S (strOf s)] [] (.tup [Flt.av (fltParse s).1,I (fltParse s).2]):=by
 have hbad:fltShape s=false->fltParse s=(F0,3):=fun h=>by unfold fltParse;rw[h];rfl
 have e1:(decide ¬(s.length:Int)=9)=false:=decide_eq_false (by omega)
 have e2:(decide ¬(s.length:Int)=10)=true:=decide_eq_true (by omega)
 have g1:=rall_sat ((s.take 6).drop 2) (by rw[List.length_drop,List.length_take];omega)
 have g2:=rall_sat (s.drop (s.length - 2)) (by rw[List.length_drop];omega)
 have g3:=rcar_sat (s.take 2) (by rw[List.length_take];omega)
 have g4:=rsuf_sat ((s.take (s.length - 3)).drop 6) (by rw[List.length_drop,List.length_take];omega)
 have b1:(s.length:Int) - 3=((s.length - 3:Nat):Int):=by omega
 have b2:(s.length:Int) - 2=((s.length - 2:Nat):Int):=by omega
 have hsh:fltShape s=(decide (s.getD (s.length - 3) 0=47)&&carB (s.take 2)&&((s.take 6).drop 2).all digit&&sufB ((s.take (s.length - 3)).drop 6)&&(s.drop (s.length - 2)).all digit):=by
  unfold fltShape
  rw[decide_eq_true (by omega),Bool.true_and]
 have hgood:fltShape s=true->fltParse s=if(fltOf s).num=0 then(F0,1) else(fltOf s,0):=fun h=>by unfold fltParse;rw[h];rfl
 have b47:(decide ¬(((s.getD (s.length - 3) 0).toNat:Nat):Int)=47)=!decide (s.getD (s.length - 3) 0=47):=by
  have:(((s.getD (s.length - 3) 0).toNat:Nat):Int)=47↔s.getD (s.length - 3) 0=47:=by
   constructor
   ·intro h
    exact UInt8.toNat_inj.1 (by show _=47;omega)
   ·intro h;rw[h];rfl
  rw[<-decide_not]
  exact decide_eq_decide.2 (not_congr this)
 refine uFN Tryz.func98 Tryz.ntmps98 ?_;intro w e X hC
 repeat refine uA ?_
 cases c1:decide (s.getD (s.length - 3) 0=47) with
 |false=>
  rw[c1] at b47
  rw[hbad (by rw[hsh,c1];simp only[Bool.and_false,Bool.false_and])]
  refine uR1 (uI @e1 (uI @e2 (uI @b1 (uI @b2 @b47)))) ?_;intro K hK
  refine uH ?_
  refine hK _ ?_;clear hK K
  refine uT ?_
  repeat refine uA ?_
  refine awp_ret ?_;rw[show Tryz.f98.results.toList=[.cell 2 26, .tmp 3] from rfl];first|refine uRN ?_|exact uRM
  rfl
 |true=>
  rw[c1] at b47
  cases c2:carB (s.take 2) with
  |false=>
   rw[c2] at g3
   rw[hbad (by rw[hsh,c2];simp only[Bool.and_false,Bool.false_and])]
   refine uR1 (uI @e1 (uI @e2 (uI @b1 (uI @b2 @b47)))) ?_;intro K hK
   refine uH ?_
   refine callF uTS (g3) uTS uTS uTS ?_;refine uS ?_
   try refine uS1 (uI @b1 @b2) ?_
   refine uH ?_
   refine hK _ ?_;clear hK K
   refine uT ?_
   repeat refine uA ?_
   refine awp_ret ?_;rw[show Tryz.f98.results.toList=[.cell 2 26, .tmp 3] from rfl];first|refine uRN ?_|exact uRM
   rfl
  |true=>
   rw[c2] at g3
   cases c3:((s.take 6).drop 2).all digit with
   |false=>
    rw[c3] at g1
    rw[hbad (by rw[hsh,c3];simp only[Bool.and_false,Bool.false_and])]
    refine uR1 (uI @e1 (uI @e2 (uI @b1 (uI @b2 @b47)))) ?_;intro K hK
    refine uH ?_
    refine callF uTS (g3) uTS uTS uTS ?_;refine uS ?_
    try refine uS1 (uI @b1 @b2) ?_
    refine uH ?_
    refine callF uTS (g1) uTS uTS uTS ?_;refine uS ?_
    try refine uS1 (uI @b1 @b2) ?_
    refine uH ?_
    refine hK _ ?_;clear hK K
    refine uT ?_
    repeat refine uA ?_
    refine awp_ret ?_;rw[show Tryz.f98.results.toList=[.cell 2 26, .tmp 3] from rfl];first|refine uRN ?_|exact uRM
    rfl
   |true=>
    rw[c3] at g1
    cases c4:sufB ((s.take (s.length - 3)).drop 6) with
    |false=>
     rw[c4] at g4
     rw[hbad (by rw[hsh,c4];simp only[Bool.and_false,Bool.false_and])]
     refine uR1 (uI @e1 (uI @e2 (uI @b1 (uI @b2 @b47)))) ?_;intro K hK
     refine uH ?_
     refine callF uTS (g3) uTS uTS uTS ?_;refine uS ?_
     try refine uS1 (uI @b1 @b2) ?_
     refine uH ?_
     refine callF uTS (g1) uTS uTS uTS ?_;refine uS ?_
     try refine uS1 (uI @b1 @b2) ?_
     refine uH ?_
     refine callF uTS (g4) uTS uTS uTS ?_;refine uS ?_
     try refine uS1 (uI @b1 @b2) ?_
     refine uH ?_
     refine hK _ ?_;clear hK K
     refine uT ?_
     repeat refine uA ?_
     refine awp_ret ?_;rw[show Tryz.f98.results.toList=[.cell 2 26, .tmp 3] from rfl];first|refine uRN ?_|exact uRM
     rfl
    |true=>
     rw[c4] at g4
     cases c5:(s.drop (s.length - 2)).all digit with
     |false=>
      rw[c5] at g2
      rw[hbad (by rw[hsh,c5];simp only[Bool.and_false,Bool.false_and])]
      refine uR1 (uI @e1 (uI @e2 (uI @b1 (uI @b2 @b47)))) ?_;intro K hK
      refine uH ?_
      refine callF uTS (g3) uTS uTS uTS ?_;refine uS ?_
      try refine uS1 (uI @b1 @b2) ?_
      refine uH ?_
      refine callF uTS (g1) uTS uTS uTS ?_;refine uS ?_
      try refine uS1 (uI @b1 @b2) ?_
      refine uH ?_
      refine callF uTS (g4) uTS uTS uTS ?_;refine uS ?_
      try refine uS1 (uI @b1 @b2) ?_
      refine uH ?_
      refine callF uTS (g2) uTS uTS uTS ?_;refine uS ?_
      try refine uS1 (uI @b1 @b2) ?_
      refine uH ?_
      refine hK _ ?_;clear hK K
      refine uT ?_
      repeat refine uA ?_
      refine awp_ret ?_;rw[show Tryz.f98.results.toList=[.cell 2 26, .tmp 3] from rfl];first|refine uRN ?_|exact uRM
      rfl
     |true=>
      rw[c5] at g2
      have v1:=rvalue_sat ((s.take 6).drop 2) (by rw[List.length_drop,List.length_take];omega) c3
      have v2:=rvalue_sat (s.drop (s.length - 2)) (by rw[List.length_drop];omega) c5
      have hnum:(fltOf s).num=(numL 0 ((s.take 6).drop 2):Nat):=rfl
      rw[hgood (by rw[hsh,c1,c2,c3,c4,c5];rfl),hnum]
      refine uR1 (uI @e1 (uI @e2 (uI @b1 (uI @b2 @b47)))) ?_;intro K hK
      refine uH ?_
      refine callF uTS (g3) uTS uTS uTS ?_;refine uS ?_
      try refine uS1 (uI @b1 @b2) ?_
      refine uH ?_
      refine callF uTS (g1) uTS uTS uTS ?_;refine uS ?_
      try refine uS1 (uI @b1 @b2) ?_
      refine uH ?_
      refine callF uTS (g4) uTS uTS uTS ?_;refine uS ?_
      try refine uS1 (uI @b1 @b2) ?_
      refine uH ?_
      refine callF uTS (g2) uTS uTS uTS ?_;refine uS ?_
      try refine uS1 (uI @b1 @b2) ?_
      refine uH ?_
      refine hK _ ?_;clear hK K
      refine uF ?_
      refine uD1 (uI @b1 @b2) ?_;intro K hK
      refine uH ?_
      refine callF uTS (v1) uTS uTS uTS ?_;refine uS ?_
      try refine uS1 (uI @b1 @b2) ?_
      refine uH ?_
      refine callF uTS (v2) uTS uTS uTS ?_;refine uS ?_
      try refine uS1 (uI @b1 @b2) ?_
      refine uH ?_
      refine hK _ ?_;clear hK K
      refine uA ?_
      refine uW ?_;refine condP _ rfl (fun cz=>?_) (fun cz=>?_)
      ·rw[if_pos cz]
       repeat refine uA ?_
       refine awp_ret ?_;rw[show Tryz.f98.results.toList=[.cell 2 26, .tmp 3] from rfl];first|refine uRN ?_|exact uRM
       rfl
      ·rw[if_neg cz]
       have e5:fltOf s=⟨s.take 2,(numL 0 ((s.take 6).drop 2):Nat),(s.take (s.length - 3)).drop 6,(numL 0 (s.drop (s.length - 2)):Nat)⟩:=rfl
       rw[e5]
       repeat refine uA ?_
       refine awp_ret ?_;rw[show Tryz.f98.results.toList=[.cell 2 26, .tmp 3] from rfl];first|refine uRN ?_|exact uRM
theorem rfparse_10 (s:Bs) (c0:s.length=10):SatG Tryz.prog tab 98 [] [S (strOf s)] [] (.tup [Flt.av (fltParse s).1,I (fltParse s).2]):=by
 have hbad:fltShape s=false->fltParse s=(F0,3):=fun h=>by unfold fltParse;rw[h];rfl
 have e1:(decide ¬(s.length:Int)=9)=true:=decide_eq_true (by omega)
 have e2:(decide ¬(s.length:Int)=10)=false:=decide_eq_false (by omega)
 have g1:=rall_sat ((s.take 6).drop 2) (by rw[List.length_drop,List.length_take];omega)
 have g2:=rall_sat (s.drop (s.length - 2)) (by rw[List.length_drop];omega)
 have g3:=rcar_sat (s.take 2) (by rw[List.length_take];omega)
 have g4:=rsuf_sat ((s.take (s.length - 3)).drop 6) (by rw[List.length_drop,List.length_take];omega)
 have b1:(s.length:Int) - 3=((s.length - 3:Nat):Int):=by omega
 have b2:(s.length:Int) - 2=((s.length - 2:Nat):Int):=by omega
 have hsh:fltShape s=(decide (s.getD (s.length - 3) 0=47)&&carB (s.take 2)&&((s.take 6).drop 2).all digit&&sufB ((s.take (s.length - 3)).drop 6)&&(s.drop (s.length - 2)).all digit):=by
  unfold fltShape
  rw[decide_eq_true (by omega),Bool.true_and]
 have hgood:fltShape s=true->fltParse s=if(fltOf s).num=0 then(F0,1) else(fltOf s,0):=fun h=>by unfold fltParse;rw[h];rfl
 have b47:(decide ¬(((s.getD (s.length - 3) 0).toNat:Nat):Int)=47)=!decide (s.getD (s.length - 3) 0=47):=by
  have:(((s.getD (s.length - 3) 0).toNat:Nat):Int)=47↔s.getD (s.length - 3) 0=47:=by
   constructor
   ·intro h
    exact UInt8.toNat_inj.1 (by show _=47;omega)
   ·intro h;rw[h];rfl
  rw[<-decide_not]
  exact decide_eq_decide.2 (not_congr this)
 refine uFN Tryz.func98 Tryz.ntmps98 ?_;intro w e X hC
 repeat refine uA ?_
 cases c1:decide (s.getD (s.length - 3) 0=47) with
 |false=>
  rw[c1] at b47
  rw[hbad (by rw[hsh,c1];simp only[Bool.and_false,Bool.false_and])]
  refine uR1 (uI @e1 (uI @e2 (uI @b1 (uI @b2 @b47)))) ?_;intro K hK
  refine uH ?_
  refine hK _ ?_;clear hK K
  refine uT ?_
  repeat refine uA ?_
  refine awp_ret ?_;rw[show Tryz.f98.results.toList=[.cell 2 26, .tmp 3] from rfl];first|refine uRN ?_|exact uRM
  rfl
 |true=>
  rw[c1] at b47
  cases c2:carB (s.take 2) with
  |false=>
   rw[c2] at g3
   rw[hbad (by rw[hsh,c2];simp only[Bool.and_false,Bool.false_and])]
   refine uR1 (uI @e1 (uI @e2 (uI @b1 (uI @b2 @b47)))) ?_;intro K hK
   refine uH ?_
   refine callF uTS (g3) uTS uTS uTS ?_;refine uS ?_
   try refine uS1 (uI @b1 @b2) ?_
   refine uH ?_
   refine hK _ ?_;clear hK K
   refine uT ?_
   repeat refine uA ?_
   refine awp_ret ?_;rw[show Tryz.f98.results.toList=[.cell 2 26, .tmp 3] from rfl];first|refine uRN ?_|exact uRM
   rfl
  |true=>
   rw[c2] at g3
   cases c3:((s.take 6).drop 2).all digit with
   |false=>
    rw[c3] at g1
    rw[hbad (by rw[hsh,c3];simp only[Bool.and_false,Bool.false_and])]
    refine uR1 (uI @e1 (uI @e2 (uI @b1 (uI @b2 @b47)))) ?_;intro K hK
    refine uH ?_
    refine callF uTS (g3) uTS uTS uTS ?_;refine uS ?_
    try refine uS1 (uI @b1 @b2) ?_
    refine uH ?_
    refine callF uTS (g1) uTS uTS uTS ?_;refine uS ?_
    try refine uS1 (uI @b1 @b2) ?_
    refine uH ?_
    refine hK _ ?_;clear hK K
    refine uT ?_
    repeat refine uA ?_
    refine awp_ret ?_;rw[show Tryz.f98.results.toList=[.cell 2 26, .tmp 3] from rfl];first|refine uRN ?_|exact uRM
    rfl
   |true=>
    rw[c3] at g1
    cases c4:sufB ((s.take (s.length - 3)).drop 6) with
    |false=>
     rw[c4] at g4
     rw[hbad (by rw[hsh,c4];simp only[Bool.and_false,Bool.false_and])]
     refine uR1 (uI @e1 (uI @e2 (uI @b1 (uI @b2 @b47)))) ?_;intro K hK
     refine uH ?_
     refine callF uTS (g3) uTS uTS uTS ?_;refine uS ?_
     try refine uS1 (uI @b1 @b2) ?_
     refine uH ?_
     refine callF uTS (g1) uTS uTS uTS ?_;refine uS ?_
     try refine uS1 (uI @b1 @b2) ?_
     refine uH ?_
     refine callF uTS (g4) uTS uTS uTS ?_;refine uS ?_
     try refine uS1 (uI @b1 @b2) ?_
     refine uH ?_
     refine hK _ ?_;clear hK K
     refine uT ?_
     repeat refine uA ?_
     refine awp_ret ?_;rw[show Tryz.f98.results.toList=[.cell 2 26, .tmp 3] from rfl];first|refine uRN ?_|exact uRM
     rfl
    |true=>
     rw[c4] at g4
     cases c5:(s.drop (s.length - 2)).all digit with
     |false=>
      rw[c5] at g2
      rw[hbad (by rw[hsh,c5];simp only[Bool.and_false,Bool.false_and])]
      refine uR1 (uI @e1 (uI @e2 (uI @b1 (uI @b2 @b47)))) ?_;intro K hK
      refine uH ?_
      refine callF uTS (g3) uTS uTS uTS ?_;refine uS ?_
      try refine uS1 (uI @b1 @b2) ?_
      refine uH ?_
      refine callF uTS (g1) uTS uTS uTS ?_;refine uS ?_
      try refine uS1 (uI @b1 @b2) ?_
      refine uH ?_
      refine callF uTS (g4) uTS uTS uTS ?_;refine uS ?_
      try refine uS1 (uI @b1 @b2) ?_
      refine uH ?_
      refine callF uTS (g2) uTS uTS uTS ?_;refine uS ?_
      try refine uS1 (uI @b1 @b2) ?_
      refine uH ?_
      refine hK _ ?_;clear hK K
      refine uT ?_
      repeat refine uA ?_
      refine awp_ret ?_;rw[show Tryz.f98.results.toList=[.cell 2 26, .tmp 3] from rfl];first|refine uRN ?_|exact uRM
      rfl
     |true=>
      rw[c5] at g2
      have v1:=rvalue_sat ((s.take 6).drop 2) (by rw[List.length_drop,List.length_take];omega) c3
      have v2:=rvalue_sat (s.drop (s.length - 2)) (by rw[List.length_drop];omega) c5
      have hnum:(fltOf s).num=(numL 0 ((s.take 6).drop 2):Nat):=rfl
      rw[hgood (by rw[hsh,c1,c2,c3,c4,c5];rfl),hnum]
      refine uR1 (uI @e1 (uI @e2 (uI @b1 (uI @b2 @b47)))) ?_;intro K hK
      refine uH ?_
      refine callF uTS (g3) uTS uTS uTS ?_;refine uS ?_
      try refine uS1 (uI @b1 @b2) ?_
      refine uH ?_
      refine callF uTS (g1) uTS uTS uTS ?_;refine uS ?_
      try refine uS1 (uI @b1 @b2) ?_
      refine uH ?_
      refine callF uTS (g4) uTS uTS uTS ?_;refine uS ?_
      try refine uS1 (uI @b1 @b2) ?_
      refine uH ?_
      refine callF uTS (g2) uTS uTS uTS ?_;refine uS ?_
      try refine uS1 (uI @b1 @b2) ?_
      refine uH ?_
      refine hK _ ?_;clear hK K
      refine uF ?_
      refine uD1 (uI @b1 @b2) ?_;intro K hK
      refine uH ?_
      refine callF uTS (v1) uTS uTS uTS ?_;refine uS ?_
      try refine uS1 (uI @b1 @b2) ?_
      refine uH ?_
      refine callF uTS (v2) uTS uTS uTS ?_;refine uS ?_
      try refine uS1 (uI @b1 @b2) ?_
      refine uH ?_
      refine hK _ ?_;clear hK K
      refine uA ?_
      refine uW ?_;refine condP _ rfl (fun cz=>?_) (fun cz=>?_)
      ·rw[if_pos cz]
       repeat refine uA ?_
       refine awp_ret ?_;rw[show Tryz.f98.results.toList=[.cell 2 26, .tmp 3] from rfl];first|refine uRN ?_|exact uRM
       rfl
      ·rw[if_neg cz]
       have e5:fltOf s=⟨s.take 2,(numL 0 ((s.take 6).drop 2):Nat),(s.take (s.length - 3)).drop 6,(numL 0 (s.drop (s.length - 2)):Nat)⟩:=rfl
       rw[e5]
       repeat refine uA ?_
       refine awp_ret ?_;rw[show Tryz.f98.results.toList=[.cell 2 26, .tmp 3] from rfl];first|refine uRN ?_|exact uRM
theorem rfparse_sat (s:Bs) (hs:s.length<=1000000):SatG Tryz.prog tab 98 [] [S (strOf s)] [] (.tup [Flt.av (fltParse s).1,I (fltParse s).2]):=by
 by_cases c9:s.length=9
 ·exact rfparse_9 s c9
 by_cases c10:s.length=10
 ·exact rfparse_10 s c10
 have hf:fltShape s=false:=by unfold fltShape;rw[decide_eq_false (by omega)];rfl
 have hp:fltParse s=(F0,3):=by unfold fltParse;rw[hf];rfl
 rw[hp]
 have e1:(decide ¬(s.length:Int)=9)=true:=decide_eq_true (by omega)
 have e2:(decide ¬(s.length:Int)=10)=true:=decide_eq_true (by omega)
 refine uFN Tryz.func98 Tryz.ntmps98 ?_;intro w e X hC
 repeat refine uA ?_
 refine uR1 (uI @e1 @e2) ?_;intro K hK
 refine uH ?_
 refine hK _ ?_;clear hK K
 refine uT ?_
 repeat refine uA ?_
 refine awp_ret ?_;rw[show Tryz.f98.results.toList=[.cell 2 26, .tmp 3] from rfl];first|refine uRN ?_|exact uRM
 rfl
open Go Go.Sym Go.Scr Go.Lib
def someB:List Flaw->Bs
 |[]=>[]
 |f::r=>32::wFault f++someB r
def rlineB (x:Acx):Bs:=
 if x.k=1 then sTick++((if x.lost then 32::sLost else[])++(someB x.mv++someB x.gl))
 else if x.k=2 then sInduct++32::(x.plt.fmt++32::decW x.node)
 else if x.k=3 then sMessage++32::swapB 10 124 x.txt
 else if x.k=4 then sVerdict++32::(decW x.img++32::(if x.clr then sClear else sAlarm))
 else if x.k=5 then revN x.rev.k++32::(x.rev.flt.fmt++(if x.rev.k<=3 then 32::decW x.rev.amt else[]))
 else if x.k=6 then sBreak++32::decW x.node
 else if x.k=7 then sRepair++32::decW x.node
 else if x.k=8 then sLoad++32::(decW x.dev++32::(x.plt.fmt++32::(decW x.node++32::decW x.con)))
 else if x.k=9 then sUnload++32::(decW x.dev++32::(x.plt.fmt++32::decW x.con))
 else if x.k=10 then sPick++32::(x.plt.fmt++32::decW x.node)
 else if x.k=11 then sOffline++32::decW x.dev
 else if x.k=12 then sOnline++32::decW x.dev
 else if x.k=13 then sDepart++32::x.flt.fmt
 else sCrash
theorem join1 (a:Bs):Lib.join [a] [32]=a:=by simp[Lib.join]
theorem join2 (a b:Bs):Lib.join [a,b] [32]=a++32::b:=by rw[join_cons2 _ _ (by simp),join1]
theorem join3 (a b c:Bs):Lib.join [a,b,c] [32]=a++32::(b++32::c):=by rw[join_cons2 _ _ (by simp),join2]
theorem join4 (a b c d:Bs):Lib.join [a,b,c,d] [32]=a++32::(b++32::(c++32::d)):=by rw[join_cons2 _ _ (by simp),join3]
theorem join5 (a b c d e:Bs):Lib.join [a,b,c,d,e] [32]=a++32::(b++32::(c++32::(d++32::e))):=by rw[join_cons2 _ _ (by simp),join4]
theorem join_some (a:Bs):∀l:List Flaw,Lib.join (a::l.map wFault) [32]=a++someB l
 |[]=>by rw[List.map_nil,join1];simp[someB]
 |f::r=>by
  rw[List.map_cons,join_cons2 _ _ (by simp),join_some (wFault f) r]
  simp[someB]
theorem someB_app:∀(a b:List Flaw),someB (a++b)=someB a++someB b
 |[],b=>rfl
 |f::r,b=>by
  show 32::wFault f++someB (r++b)=(32::wFault f++someB r)++someB b
  rw[someB_app r b,List.append_assoc]
theorem rline_eq {x:Acx} (h:plainA x=true):lineS x=some (rlineB x):=by
 have h0:=h
 rw[plainA_line] at h0
 cases hl:lineS x with
 |none=>rw[hl] at h0;cases h0
 |some s=>
  rw[line_eq hl]
  unfold plainA at h
  simp only[Bool.and_eq_true,decide_eq_true_eq] at h
  obtain⟨⟨k1,k2⟩,ho,hb⟩:=h
  congr 1
  unfold rlineB wAct
  have hbad:=act_bad ⟨k1,k2⟩ ho
  rw[hb] at hbad
  by_cases q1:x.k=1
  ·rw[if_pos q1,if_pos q1]
   have hw0:wAct ([],false) x=wFaults 3 6 x.gl (wFaults 1 2 x.mv (if x.lost then wWord (wWord ([],false) sTick) sLost else wWord ([],false) sTick)):=by unfold wAct;rw[if_pos q1]
   rw[hw0] at hbad
   obtain⟨a1,a2,a3⟩:=wFaults_ok hbad
   obtain⟨b1,b2,b3⟩:=wFaults_ok a2
   rw[a3,b3]
   cases x.lost with
   |true=>
    show Lib.join ([sTick,sLost]++x.mv.map wFault++x.gl.map wFault) [32]=_
    rw[List.append_assoc,<-List.map_append]
    show Lib.join (sTick::sLost::(x.mv++x.gl).map wFault) [32]=_
    rw[join_cons2 _ _ (by simp),join_some,someB_app]
    rfl
   |false=>
    show Lib.join ([sTick]++x.mv.map wFault++x.gl.map wFault) [32]=_
    rw[List.append_assoc,<-List.map_append]
    show Lib.join (sTick::(x.mv++x.gl).map wFault) [32]=_
    rw[join_some,someB_app]
    rfl
  rw[if_neg q1,if_neg q1]
  by_cases q2:x.k=2
  ·rw[if_pos q2,if_pos q2]
   exact join3 _ _ _
  rw[if_neg q2,if_neg q2]
  by_cases q3:x.k=3
  ·rw[if_pos q3,if_pos q3]
   exact join2 _ _
  rw[if_neg q3,if_neg q3]
  by_cases q4:x.k=4
  ·rw[if_pos q4,if_pos q4]
   exact join3 _ _ _
  rw[if_neg q4,if_neg q4]
  by_cases q5:x.k=5
  ·rw[if_pos q5,if_pos q5]
   unfold bodyB at hb
   rw[if_neg (by omega),if_neg (by omega),if_pos q5] at hb
   unfold revB at hb
   simp only[Bool.and_eq_true,decide_eq_true_eq,Bool.or_eq_true] at hb
   obtain⟨hr,hf,hn,ha⟩:=hb
   unfold wRev
   rw[if_pos hr]
   by_cases c:x.rev.k<=3
   ·rw[if_pos c,if_neg (by omega)]
    exact join3 _ _ _
   ·rw[if_neg c,if_pos (by omega),List.append_nil]
    exact join2 _ _
  rw[if_neg q5,if_neg q5]
  by_cases q6:x.k=6
  ·rw[if_pos q6,if_pos q6]
   exact join2 _ _
  rw[if_neg q6,if_neg q6]
  by_cases q7:x.k=7
  ·rw[if_pos q7,if_pos q7]
   exact join2 _ _
  rw[if_neg q7,if_neg q7]
  by_cases q8:x.k=8
  ·rw[if_pos q8,if_pos q8]
   exact join5 _ _ _ _ _
  rw[if_neg q8,if_neg q8]
  by_cases q9:x.k=9
  ·rw[if_pos q9,if_pos q9]
   exact join4 _ _ _ _
  rw[if_neg q9,if_neg q9]
  by_cases q10:x.k=10
  ·rw[if_pos q10,if_pos q10]
   exact join3 _ _ _
  rw[if_neg q10,if_neg q10]
  by_cases q11:x.k=11
  ·rw[if_pos q11,if_pos q11]
   exact join2 _ _
  rw[if_neg q11,if_neg q11]
  by_cases q12:x.k=12
  ·rw[if_pos q12,if_pos q12]
   exact join2 _ _
  rw[if_neg q12,if_neg q12]
  by_cases q13:x.k=13
  ·rw[if_pos q13,if_pos q13]
   exact join2 _ _
  rw[if_neg q13,if_neg q13]
  exact join1 _
theorem rline_no {x:Acx} (h:plainA x=false):lineS x=none:=by
 rw[plainA_line] at h
 cases hl:lineS x with
 |none=>rfl
 |some s=>rw[hl] at h;cases h
open Go.Scr
def accL:List Bs->Bool->List Flaw->List Flaw->Bool->List Flaw×List Flaw×Bool
 |[],_,m,g,l=>(m,g,l)
 |x::r,f,m,g,l=>if f=true/\x=sLost then accL r false m g true else if(rfault x).k<=2 then accL r false (m++[rfault x]) g l else accL r false m (g++[rfault x]) l
theorem accL_no:∀(ws:List Bs) (m g:List Flaw) (l:Bool),accL ws false m g l=(m++lowF (ws.map rfault),g++highF (ws.map rfault),l)
 |[],m,g,l=>by simp[accL,lowF,highF]
 |x::r,m,g,l=>by
  rw[accL,if_neg (by simp)]
  by_cases h:(rfault x).k<=2
  ·rw[if_pos h,accL_no r]
   simp[lowF,highF,h]
  ·rw[if_neg h,accL_no r]
   simp[lowF,highF,h]
theorem gTick_acc (ws:List Bs):gTick ws={A0 1 with mv:=(accL ws true [] [] false).1,gl:=(accL ws true [] [] false).2.1,lost:=(accL ws true [] [] false).2.2}:=by
 cases ws with
 |nil=>rfl
 |cons x r=>
  unfold gTick
  by_cases h:x=sLost
  ·rw[if_pos (by rw[h];rfl),accL,if_pos ⟨rfl,h⟩,accL_no]
   rfl
  ·rw[if_neg (by simpa using h),accL,if_neg (fun h'=>h h'.2)]
   by_cases h2:(rfault x).k<=2
   ·rw[if_pos h2,accL_no]
    simp[lowF,highF,h2,A0]
   ·rw[if_neg h2,accL_no]
    simp[lowF,highF,h2,A0]
theorem drop_getD {w:List Bs} {i:Nat} (h:i<w.length):w.drop i=w.getD i []::w.drop (i+1):=by
 rw[List.drop_eq_getElem_cons h,List.getD_eq_getElem?_getD,List.getElem?_eq_getElem h];rfl
set_option maxHeartbeats 4000000 in
theorem rguess_sat (s:Bs) (hs:s.length<=900000):SatG Tryz.prog tab 45 [] [S (strOf s)] [] (guessS s).av:=by
 unfold guessS
 have gs:=rsplit_sat s 32 (by omega)
 have hlen:=splitL_len 32 s
 have hcnt:=splitL_length 32 s
 have hcl:s.count 32<=s.length:=List.count_le_length
 have hne:=splitL_ne 32 s
 generalize splitL 32 s=wl at*
 have hw0:0<wl.length:=List.length_pos_iff.2 hne
 have hg:∀i,(wl.getD i []).length<=1000000:=fun i=>by
  by_cases h:i<wl.length
  ·have:=hlen (wl.getD i []) (by rw[List.getD_eq_getElem?_getD,List.getElem?_eq_getElem h];exact List.getElem_mem h)
   omega
  ·rw[List.getD_eq_getElem?_getD,List.getElem?_eq_none (by omega)];exact Nat.zero_le _
 have a1:=rat_sat wl 1 (by omega) (by decide)
 have a2:=rat_sat wl 2 (by omega) (by decide)
 have a3:=rat_sat wl 3 (by omega) (by decide)
 have a4:=rat_sat wl 4 (by omega) (by decide)
 have p1:=rpparse_sat (wl.getD 1 []) (hg 1)
 have p2:=rpparse_sat (wl.getD 2 []) (hg 2)
 have f1:=rfparse_sat (wl.getD 1 []) (hg 1)
 have v1:=rnum_sat (wl.getD 1 []) (hg 1)
 have v2:=rnum_sat (wl.getD 2 []) (hg 2)
 have v3:=rnum_sat (wl.getD 3 []) (hg 3)
 have v4:=rnum_sat (wl.getD 4 []) (hg 4)
 refine uFN Tryz.func45 Tryz.ntmps45 ?_;intro w e X hC
 repeat refine uA ?_
 refine uR ?_;intro K hK
 refine uH ?_
 refine callP uTS (gs) uTS uTS uTS ?_;refine uS ?_
 refine uH ?_
 refine hK _ ?_;clear hK K
 refine uR ?_;intro K hK
 refine uH ?_
 refine callF uTS (a1) uTS uTS uTS ?_;refine uS ?_
 refine uH ?_
 refine callF uTS (p1) uTS uTS uTS ?_;refine uS ?_
 refine uH ?_
 refine hK _ ?_;clear hK K
 refine uR ?_;intro K hK
 refine uH ?_
 refine callF uTS (a2) uTS uTS uTS ?_;refine uS ?_
 refine uH ?_
 refine callF uTS (p2) uTS uTS uTS ?_;refine uS ?_
 refine uH ?_
 refine hK _ ?_;clear hK K
 refine uR ?_;intro K hK
 refine uH ?_
 refine callF uTS (a1) uTS uTS uTS ?_;refine uS ?_
 refine uH ?_
 refine callF uTS (f1) uTS uTS uTS ?_;refine uS ?_
 refine uH ?_
 refine hK _ ?_;clear hK K
 refine uR ?_;intro K hK
 refine uH ?_
 refine callF uTS (a1) uTS uTS uTS ?_;refine uS ?_
 refine uH ?_
 refine callF uTS (v1) uTS uTS uTS ?_;refine uS ?_
 refine uH ?_
 refine callF uTS (a2) uTS uTS uTS ?_;refine uS ?_
 refine uH ?_
 refine callF uTS (v2) uTS uTS uTS ?_;refine uS ?_
 refine uH ?_
 refine callF uTS (a3) uTS uTS uTS ?_;refine uS ?_
 refine uH ?_
 refine callF uTS (v3) uTS uTS uTS ?_;refine uS ?_
 refine uH ?_
 refine callF uTS (a4) uTS uTS uTS ?_;refine uS ?_
 refine uH ?_
 refine callF uTS (v4) uTS uTS uTS ?_;refine uS ?_
 refine uH ?_
 refine hK _ ?_;clear hK K
 refine uA1 (strs_getD hw0) ?_
 generalize hu:wl.getD 0 []=u at*
 refine awp_weak (s':=⟨[(0,S (strOf s)),(2, .ptO 102 1 0 0 0),(3, .sl (strs wl) false),(4, .ptO 104 11 0 0 0),(6, .ptO 106 20 0 0 0),(8, .ptO 108 29 0 0 0),(10,I (rval (wl.getD 1 []))),(11,I (rval (wl.getD 2 []))),(12,I (rval (wl.getD 3 []))),(13,I (rval (wl.getD 4 []))),(51,S (strOf u))],[(102,some (1, .box [I 0, .sl [] true, .sl [] true,B false,I 0,I 0,I 0,I 0,I 0,B false, .lit (.string .empty),I 0,I 0, .lit (.string .empty),I 0, .lit (.string .empty),I 0,I 0,I 0, .lit (.string .empty),I 0, .lit (.string .empty),I 0])),(104,some (11, .box [I (pltParse (wl.getD 1 [])).1.l,I (pltParse (wl.getD 1 [])).1.a,I (pltParse (wl.getD 1 [])).1.s])),(106,some (20, .box [I (pltParse (wl.getD 2 [])).1.l,I (pltParse (wl.getD 2 [])).1.a,I (pltParse (wl.getD 2 [])).1.s])),(108,some (29, .box [S (strOf (fltParse (wl.getD 1 [])).1.car),I (fltParse (wl.getD 1 [])).1.num,S (strOf (fltParse (wl.getD 1 [])).1.suf),I (fltParse (wl.getD 1 [])).1.day]))],_⟩) (uKF) ?_
 by_cases q1:u=sTick
 ·have d1:decide (u=[116,105,99,107])=true:=decide_eq_true q1
  have hn:wordN (wl.getD 0 [])=1:=by rw[hu,q1];exact wordN_1
  have hT:guessW s wl=gTick (wl.drop 1):=by simp only[guessW,hn]
  rw[hT]
  rw[gTick_acc]
  generalize hT2:accL (wl.drop 1) true [] [] false=T
  repeat first|refine uC ?_|refine uA1 @d1 ?_
  refine awp_nil0 401 114 54 79 3 1 (by decide) rfl rfl rfl ?_
  refine awp_nil0 402 114 54 79 3 2 (by decide) rfl rfl rfl ?_
  refine uW ?_
  refine awp_loopW (fun i:Nat×Nat×Nat×Nat×List Flaw×List Flaw×Bool=>⟨[(2, .ptO 102 1 0 0 0),(3, .sl (strs wl) false),(14, .ptO 114 54 0 0 0),(15,I i.2.2.2.1)],[(114,some (54, .box [I 1, .slO 401 i.2.1 0 i.2.2.2.2.1.length, .slO 402 i.2.2.1 0 i.2.2.2.2.2.1.length,B i.2.2.2.2.2.2,I 0,I 0,I 0,I 0,I 0,B false, .lit (.string .empty),I 0,I 0, .lit (.string .empty),I 0, .lit (.string .empty),I 0,I 0,I 0, .lit (.string .empty),I 0, .lit (.string .empty),I 0])),(401,some (i.2.1, .own 79 3 (flaws i.2.2.2.2.1))),(402,some (i.2.2.1, .own 79 3 (flaws i.2.2.2.2.2.1))),(102,some (1, .box [I 0, .sl [] true, .sl [] true,B false,I 0,I 0,I 0,I 0,I 0,B false, .lit (.string .empty),I 0,I 0, .lit (.string .empty),I 0, .lit (.string .empty),I 0,I 0,I 0, .lit (.string .empty),I 0, .lit (.string .empty),I 0]))],i.1⟩)
   (fun i=>1<=i.2.2.2.1/\i.2.2.2.1<=wl.length/\i.2.2.2.2.1.length+i.2.2.2.2.2.1.length<=i.2.2.2.1/\accL (wl.drop i.2.2.2.1) (decide (i.2.2.2.1=1)) i.2.2.2.2.1 i.2.2.2.2.2.1 i.2.2.2.2.2.2=T) (fun i=>wl.length - i.2.2.2.1) (_,57,58,1,[],[],false) ⟨Nat.le_refl _,hw0,Nat.zero_le _,hT2⟩ (uKF) ?_
  rintro⟨ck,ga,gb,i,m,g,l⟩ ⟨h1,h2,h3,h4⟩
  simp only at h1 h2 h3 h4
  refine uA ?_
  refine uW ?_;refine condP _ rfl (fun h=>?_) (fun h=>?_)
  ·have hlt:i<wl.length:=by omega
   have hwi:(strs wl).getD i .bad=S (strOf (wl.getD i [])):=strs_getD hlt
   have hf:=rfault_sat (wl.getD i []) (hg i)
   have hdr:=drop_getD hlt
   have hwl:wl.length<=1000000:=by omega
   have dn:=uDf (i+1=1)
   rw[hdr,accL] at h4
   clear hdr
   generalize wl.getD i []=x at*
   refine uR1 @hwi ?_;intro K hK
   refine uH ?_
   refine callF uTS (hf) uTS uTS uTS ?_;refine uS ?_
   refine uH ?_
   refine hK _ ?_;clear hK K
   generalize rfault x=f at*
   by_cases hlo:i=1/\x=sLost
   ·obtain⟨hi,hx⟩:=hlo
    rw[if_pos ⟨decide_eq_true hi,hx⟩] at h4
    have e1:=uDt ((i:Int)=1)
    have e2:decide (x=[108,111,115,116])=true:=decide_eq_true hx
    repeat first|refine uC ?_|refine uA1 (uI @e1 (uI @e2 @hwi)) ?_
    refine⟨(_,ga,gb,i+1,m,g,true),⟨by simp only;omega,by simp only;omega,by simp only;omega,by simp only;rw[dn];exact h4⟩,by simp only;omega,uKF⟩
   ·rw[if_neg (fun h'=>hlo ⟨of_decide_eq_true h'.1,h'.2⟩)] at h4
    by_cases hi:i=1
    ·have e1:=uDt ((i:Int)=1)
     have e2:decide (x=[108,111,115,116])=false:=decide_eq_false (fun hx=>hlo ⟨hi,hx⟩)
     by_cases c3:f.k<=2
     ·have e3:decide (f.k<=2)=true:=decide_eq_true c3
      rw[if_pos c3] at h4
      have hml:(m++[(⟨f.k,f.n,f.w⟩:Flaw)]).length=m.length+1:=by simp
      repeat first|refine uC ?_|refine uA1 (uI @e1 (uI @e2 (uI @hwi @e3))) ?_
      refine⟨(_,ga,gb,i+1,m++[⟨f.k,f.n,f.w⟩],g,l),⟨by simp only;omega,by simp only;omega,by simp only[List.length_append,List.length_singleton];omega,by simp only;rw[dn];exact h4⟩,by simp only;omega, .of (Nat.le_refl _) (uHF1 @hml) uWF⟩
     ·have e3:decide (f.k<=2)=false:=decide_eq_false c3
      rw[if_neg c3] at h4
      have hml:(g++[(⟨f.k,f.n,f.w⟩:Flaw)]).length=g.length+1:=by simp
      repeat first|refine uC ?_|refine uA1 (uI @e1 (uI @e2 (uI @hwi @e3))) ?_
      refine⟨(_,ga,gb,i+1,m,g++[⟨f.k,f.n,f.w⟩],l),⟨by simp only;omega,by simp only;omega,by simp only[List.length_append,List.length_singleton];omega,by simp only;rw[dn];exact h4⟩,by simp only;omega, .of (Nat.le_refl _) (uHF1 @hml) uWF⟩
    ·have e1:=uDf ((i:Int)=1)
     by_cases c3:f.k<=2
     ·have e3:decide (f.k<=2)=true:=decide_eq_true c3
      rw[if_pos c3] at h4
      have hml:(m++[(⟨f.k,f.n,f.w⟩:Flaw)]).length=m.length+1:=by simp
      repeat first|refine uC ?_|refine uA1 (uI @e1 @e3) ?_
      refine⟨(_,ga,gb,i+1,m++[⟨f.k,f.n,f.w⟩],g,l),⟨by simp only;omega,by simp only;omega,by simp only[List.length_append,List.length_singleton];omega,by simp only;rw[dn];exact h4⟩,by simp only;omega, .of (Nat.le_refl _) (uHF1 @hml) uWF⟩
     ·have e3:decide (f.k<=2)=false:=decide_eq_false c3
      rw[if_neg c3] at h4
      have hml:(g++[(⟨f.k,f.n,f.w⟩:Flaw)]).length=g.length+1:=by simp
      repeat first|refine uC ?_|refine uA1 (uI @e1 @e3) ?_
      refine⟨(_,ga,gb,i+1,m,g++[⟨f.k,f.n,f.w⟩],l),⟨by simp only;omega,by simp only;omega,by simp only[List.length_append,List.length_singleton];omega,by simp only;rw[dn];exact h4⟩,by simp only;omega, .of (Nat.le_refl _) (uHF1 @hml) uWF⟩
  ·refine awp_exit ?_
   have:i=wl.length:=by omega
   subst this
   rw[List.drop_length,accL] at h4
   rw[<-h4]
   repeat refine uA ?_
   refine awp_ret ?_;rw[show Tryz.f45.results.toList=[.cell 2 30] from rfl];first|refine uRN ?_|exact uRM
   try rfl
 have d1:decide (u=[116,105,99,107])=false:=decide_eq_false q1
 by_cases q2:u=sInduct
 ·have d2:decide (u=[105,110,100,117,99,116])=true:=decide_eq_true q2
  have hn:wordN (wl.getD 0 [])=2:=by rw[hu,q2];exact wordN_2
  have hT:guessW s wl={A0 2 with plt:=(pltParse (wl.getD 1 [])).1,node:=rval (wl.getD 2 [])}:=by simp only[guessW,hn]
  rw[hT]
  repeat first|refine uC ?_|refine uA1 (uI @d1 @d2) ?_
  refine awp_ret ?_;rw[show Tryz.f45.results.toList=[.cell 2 30] from rfl];first|refine uRN ?_|exact uRM
  try rfl
 have d2:decide (u=[105,110,100,117,99,116])=false:=decide_eq_false q2
 by_cases q3:u=sMessage
 ·have d3:decide (u=[109,101,115,115,97,103,101])=true:=decide_eq_true q3
  have hn:wordN (wl.getD 0 [])=3:=by rw[hu,q3];exact wordN_3
  have hT:guessW s wl={A0 3 with txt:=swapB 124 10 (s.drop (min s.length 8))}:=by simp only[guessW,hn]
  rw[hT]
  have m1:(if(8:Int)<(s.length:Int) then(8:Int) else(s.length:Int))=((min s.length 8:Nat):Int):=by split<;>omega
  have g1:=rbars_sat (s.drop (min s.length 8)) 124 10 (by rw[List.length_drop];omega)
  repeat first|refine uC ?_|refine uA1 (uI @d1 (uI @d2 @d3)) ?_
  refine uR1 @m1 ?_;intro K hK
  refine uH ?_
  refine callF uTS (g1) uTS uTS uTS ?_;refine uS ?_
  try refine uS ?_
  refine uH ?_
  refine hK _ ?_;clear hK K
  refine awp_ret ?_;rw[show Tryz.f45.results.toList=[.cell 2 30] from rfl];first|refine uRN ?_|exact uRM
  try rfl
 have d3:decide (u=[109,101,115,115,97,103,101])=false:=decide_eq_false q3
 by_cases q4:u=sVerdict
 ·have d4:decide (u=[118,101,114,100,105,99,116])=true:=decide_eq_true q4
  have hn:wordN (wl.getD 0 [])=4:=by rw[hu,q4];exact wordN_4
  have hT:guessW s wl={A0 4 with img:=rval (wl.getD 1 []),clr:=decide (wl.getD 2 []=sClear)}:=by simp only[guessW,hn]
  rw[hT]
  repeat first|refine uC ?_|refine uA1 (uI @d1 (uI @d2 (uI @d3 @d4))) ?_
  refine uR ?_;intro K hK
  refine uH ?_
  refine callF uTS (a2) uTS uTS uTS ?_;refine uS ?_
  try refine uS ?_
  refine uH ?_
  refine hK _ ?_;clear hK K
  refine awp_ret ?_;rw[show Tryz.f45.results.toList=[.cell 2 30] from rfl];first|refine uRN ?_|exact uRM
  try rfl
 have d4:decide (u=[118,101,114,100,105,99,116])=false:=decide_eq_false q4
 by_cases q5:u=(revN 1)
 ·have d5:decide (u=[100,101,108,97,121])=true:=decide_eq_true q5
  have hn:wordN (wl.getD 0 [])=5:=by rw[hu,q5];exact wordN_5
  have hT:guessW s wl={A0 5 with rev:=⟨1,rval (wl.getD 2 []),(fltParse (wl.getD 1 [])).1⟩}:=by simp only[guessW,hn]
  rw[hT]
  repeat first|refine uC ?_|refine uA1 (uI @d1 (uI @d2 (uI @d3 (uI @d4 @d5)))) ?_
  refine awp_ret ?_;rw[show Tryz.f45.results.toList=[.cell 2 30] from rfl];first|refine uRN ?_|exact uRM
  try rfl
 have d5:decide (u=[100,101,108,97,121])=false:=decide_eq_false q5
 by_cases q6:u=(revN 2)
 ·have d6:decide (u=[111,112,101,110,115])=true:=decide_eq_true q6
  have hn:wordN (wl.getD 0 [])=6:=by rw[hu,q6];exact wordN_6
  have hT:guessW s wl={A0 5 with rev:=⟨2,rval (wl.getD 2 []),(fltParse (wl.getD 1 [])).1⟩}:=by simp only[guessW,hn]
  rw[hT]
  repeat first|refine uC ?_|refine uA1 (uI @d1 (uI @d2 (uI @d3 (uI @d4 (uI @d5 @d6))))) ?_
  refine awp_ret ?_;rw[show Tryz.f45.results.toList=[.cell 2 30] from rfl];first|refine uRN ?_|exact uRM
  try rfl
 have d6:decide (u=[111,112,101,110,115])=false:=decide_eq_false q6
 by_cases q7:u=(revN 3)
 ·have d7:decide (u=[115,116,97,110,100])=true:=decide_eq_true q7
  have hn:wordN (wl.getD 0 [])=7:=by rw[hu,q7];exact wordN_7
  have hT:guessW s wl={A0 5 with rev:=⟨3,rval (wl.getD 2 []),(fltParse (wl.getD 1 [])).1⟩}:=by simp only[guessW,hn]
  rw[hT]
  repeat first|refine uC ?_|refine uA1 (uI @d1 (uI @d2 (uI @d3 (uI @d4 (uI @d5 (uI @d6 @d7)))))) ?_
  refine awp_ret ?_;rw[show Tryz.f45.results.toList=[.cell 2 30] from rfl];first|refine uRN ?_|exact uRM
  try rfl
 have d7:decide (u=[115,116,97,110,100])=false:=decide_eq_false q7
 by_cases q8:u=(revN 4)
 ·have d8:decide (u=[99,97,110,99,101,108])=true:=decide_eq_true q8
  have hn:wordN (wl.getD 0 [])=8:=by rw[hu,q8];exact wordN_8
  have hT:guessW s wl={A0 5 with rev:=⟨4,0,(fltParse (wl.getD 1 [])).1⟩}:=by simp only[guessW,hn]
  rw[hT]
  repeat first|refine uC ?_|refine uA1 (uI @d1 (uI @d2 (uI @d3 (uI @d4 (uI @d5 (uI @d6 (uI @d7 @d8))))))) ?_
  refine awp_ret ?_;rw[show Tryz.f45.results.toList=[.cell 2 30] from rfl];first|refine uRN ?_|exact uRM
  try rfl
 have d8:decide (u=[99,97,110,99,101,108])=false:=decide_eq_false q8
 by_cases q9:u=(revN 5)
 ·have d9:decide (u=[114,101,115,116,111,114,101])=true:=decide_eq_true q9
  have hn:wordN (wl.getD 0 [])=9:=by rw[hu,q9];exact wordN_9
  have hT:guessW s wl={A0 5 with rev:=⟨5,0,(fltParse (wl.getD 1 [])).1⟩}:=by simp only[guessW,hn]
  rw[hT]
  repeat first|refine uC ?_|refine uA1 (uI @d1 (uI @d2 (uI @d3 (uI @d4 (uI @d5 (uI @d6 (uI @d7 (uI @d8 @d9)))))))) ?_
  refine awp_ret ?_;rw[show Tryz.f45.results.toList=[.cell 2 30] from rfl];first|refine uRN ?_|exact uRM
  try rfl
 have d9:decide (u=[114,101,115,116,111,114,101])=false:=decide_eq_false q9
 by_cases q10:u=sBreak
 ·have d10:decide (u=[98,114,101,97,107])=true:=decide_eq_true q10
  have hn:wordN (wl.getD 0 [])=10:=by rw[hu,q10];exact wordN_10
  have hT:guessW s wl={A0 6 with node:=rval (wl.getD 1 [])}:=by simp only[guessW,hn]
  rw[hT]
  repeat first|refine uC ?_|refine uA1 (uI @d1 (uI @d2 (uI @d3 (uI @d4 (uI @d5 (uI @d6 (uI @d7 (uI @d8 (uI @d9 @d10))))))))) ?_
  refine awp_ret ?_;rw[show Tryz.f45.results.toList=[.cell 2 30] from rfl];first|refine uRN ?_|exact uRM
  try rfl
 have d10:decide (u=[98,114,101,97,107])=false:=decide_eq_false q10
 by_cases q11:u=sRepair
 ·have d11:decide (u=[114,101,112,97,105,114])=true:=decide_eq_true q11
  have hn:wordN (wl.getD 0 [])=11:=by rw[hu,q11];exact wordN_11
  have hT:guessW s wl={A0 7 with node:=rval (wl.getD 1 [])}:=by simp only[guessW,hn]
  rw[hT]
  repeat first|refine uC ?_|refine uA1 (uI @d1 (uI @d2 (uI @d3 (uI @d4 (uI @d5 (uI @d6 (uI @d7 (uI @d8 (uI @d9 (uI @d10 @d11)))))))))) ?_
  refine awp_ret ?_;rw[show Tryz.f45.results.toList=[.cell 2 30] from rfl];first|refine uRN ?_|exact uRM
  try rfl
 have d11:decide (u=[114,101,112,97,105,114])=false:=decide_eq_false q11
 by_cases q12:u=sLoad
 ·have d12:decide (u=[108,111,97,100])=true:=decide_eq_true q12
  have hn:wordN (wl.getD 0 [])=12:=by rw[hu,q12];exact wordN_12
  have hT:guessW s wl={A0 8 with dev:=rval (wl.getD 1 []),plt:=(pltParse (wl.getD 2 [])).1,node:=rval (wl.getD 3 []),con:=rval (wl.getD 4 [])}:=by simp only[guessW,hn]
  rw[hT]
  repeat first|refine uC ?_|refine uA1 (uI @d1 (uI @d2 (uI @d3 (uI @d4 (uI @d5 (uI @d6 (uI @d7 (uI @d8 (uI @d9 (uI @d10 (uI @d11 @d12))))))))))) ?_
  refine awp_ret ?_;rw[show Tryz.f45.results.toList=[.cell 2 30] from rfl];first|refine uRN ?_|exact uRM
  try rfl
 have d12:decide (u=[108,111,97,100])=false:=decide_eq_false q12
 by_cases q13:u=sUnload
 ·have d13:decide (u=[117,110,108,111,97,100])=true:=decide_eq_true q13
  have hn:wordN (wl.getD 0 [])=13:=by rw[hu,q13];exact wordN_13
  have hT:guessW s wl={A0 9 with dev:=rval (wl.getD 1 []),plt:=(pltParse (wl.getD 2 [])).1,con:=rval (wl.getD 3 [])}:=by simp only[guessW,hn]
  rw[hT]
  repeat first|refine uC ?_|refine uA1 (uI @d1 (uI @d2 (uI @d3 (uI @d4 (uI @d5 (uI @d6 (uI @d7 (uI @d8 (uI @d9 (uI @d10 (uI @d11 (uI @d12 @d13)))))))))))) ?_
  refine awp_ret ?_;rw[show Tryz.f45.results.toList=[.cell 2 30] from rfl];first|refine uRN ?_|exact uRM
  try rfl
 have d13:decide (u=[117,110,108,111,97,100])=false:=decide_eq_false q13
 by_cases q14:u=sPick
 ·have d14:decide (u=[112,105,99,107])=true:=decide_eq_true q14
  have hn:wordN (wl.getD 0 [])=14:=by rw[hu,q14];exact wordN_14
  have hT:guessW s wl={A0 10 with plt:=(pltParse (wl.getD 1 [])).1,node:=rval (wl.getD 2 [])}:=by simp only[guessW,hn]
  rw[hT]
  repeat first|refine uC ?_|refine uA1 (uI @d1 (uI @d2 (uI @d3 (uI @d4 (uI @d5 (uI @d6 (uI @d7 (uI @d8 (uI @d9 (uI @d10 (uI @d11 (uI @d12 (uI @d13 @d14))))))))))))) ?_
  refine awp_ret ?_;rw[show Tryz.f45.results.toList=[.cell 2 30] from rfl];first|refine uRN ?_|exact uRM
  try rfl
 have d14:decide (u=[112,105,99,107])=false:=decide_eq_false q14
 by_cases q15:u=sOffline
 ·have d15:decide (u=[111,102,102,108,105,110,101])=true:=decide_eq_true q15
  have hn:wordN (wl.getD 0 [])=15:=by rw[hu,q15];exact wordN_15
  have hT:guessW s wl={A0 11 with dev:=rval (wl.getD 1 [])}:=by simp only[guessW,hn]
  rw[hT]
  repeat first|refine uC ?_|refine uA1 (uI @d1 (uI @d2 (uI @d3 (uI @d4 (uI @d5 (uI @d6 (uI @d7 (uI @d8 (uI @d9 (uI @d10 (uI @d11 (uI @d12 (uI @d13 (uI @d14 @d15)))))))))))))) ?_
  refine awp_ret ?_;rw[show Tryz.f45.results.toList=[.cell 2 30] from rfl];first|refine uRN ?_|exact uRM
  try rfl
 have d15:decide (u=[111,102,102,108,105,110,101])=false:=decide_eq_false q15
 by_cases q16:u=sOnline
 ·have d16:decide (u=[111,110,108,105,110,101])=true:=decide_eq_true q16
  have hn:wordN (wl.getD 0 [])=16:=by rw[hu,q16];exact wordN_16
  have hT:guessW s wl={A0 12 with dev:=rval (wl.getD 1 [])}:=by simp only[guessW,hn]
  rw[hT]
  repeat first|refine uC ?_|refine uA1 (uI @d1 (uI @d2 (uI @d3 (uI @d4 (uI @d5 (uI @d6 (uI @d7 (uI @d8 (uI @d9 (uI @d10 (uI @d11 (uI @d12 (uI @d13 (uI @d14 (uI @d15 @d16))))))))))))))) ?_
  refine awp_ret ?_;rw[show Tryz.f45.results.toList=[.cell 2 30] from rfl];first|refine uRN ?_|exact uRM
  try rfl
 have d16:decide (u=[111,110,108,105,110,101])=false:=decide_eq_false q16
 by_cases q17:u=sDepart
 ·have d17:decide (u=[100,101,112,97,114,116])=true:=decide_eq_true q17
  have hn:wordN (wl.getD 0 [])=17:=by rw[hu,q17];exact wordN_17
  have hT:guessW s wl={A0 13 with flt:=(fltParse (wl.getD 1 [])).1}:=by simp only[guessW,hn]
  rw[hT]
  repeat first|refine uC ?_|refine uA1 (uI @d1 (uI @d2 (uI @d3 (uI @d4 (uI @d5 (uI @d6 (uI @d7 (uI @d8 (uI @d9 (uI @d10 (uI @d11 (uI @d12 (uI @d13 (uI @d14 (uI @d15 (uI @d16 @d17)))))))))))))))) ?_
  refine awp_ret ?_;rw[show Tryz.f45.results.toList=[.cell 2 30] from rfl];first|refine uRN ?_|exact uRM
  try rfl
 have d17:decide (u=[100,101,112,97,114,116])=false:=decide_eq_false q17
 by_cases q18:u=sCrash
 ·have d18:decide (u=[99,114,97,115,104])=true:=decide_eq_true q18
  have hn:wordN (wl.getD 0 [])=18:=by rw[hu,q18];exact wordN_18
  have hT:guessW s wl=A0 14:=by simp only[guessW,hn]
  rw[hT]
  repeat first|refine uC ?_|refine uA1 (uI @d1 (uI @d2 (uI @d3 (uI @d4 (uI @d5 (uI @d6 (uI @d7 (uI @d8 (uI @d9 (uI @d10 (uI @d11 (uI @d12 (uI @d13 (uI @d14 (uI @d15 (uI @d16 (uI @d17 @d18))))))))))))))))) ?_
  refine awp_ret ?_;rw[show Tryz.f45.results.toList=[.cell 2 30] from rfl];first|refine uRN ?_|exact uRM
  try rfl
 have d18:decide (u=[99,114,97,115,104])=false:=decide_eq_false q18
 have hn:wordN (wl.getD 0 [])=0:=by
  rw[hu];unfold wordN
  rw[if_neg q1,if_neg q2,if_neg q3,if_neg q4,if_neg q5,if_neg q6,if_neg q7,if_neg q8,if_neg q9,if_neg q10,if_neg q11,if_neg q12,if_neg q13,if_neg q14,if_neg q15,if_neg q16,if_neg q17,if_neg q18]
 have hT:guessW s wl=A0 0:=by simp only[guessW,hn]
 rw[hT]
 repeat first|refine uC ?_|refine uA1 (uI @d1 (uI @d2 (uI @d3 (uI @d4 (uI @d5 (uI @d6 (uI @d7 (uI @d8 (uI @d9 (uI @d10 (uI @d11 (uI @d12 (uI @d13 (uI @d14 (uI @d15 (uI @d16 (uI @d17 @d18))))))))))))))))) ?_
 refine awp_ret ?_;rw[show Tryz.f45.results.toList=[.cell 2 30] from rfl];first|refine uRN ?_|exact uRM
 try rfl
open Go.Scr
theorem rdec_sat (n:Int) (h:numB n=true):SatG Tryz.prog tab 40 [] [I n] [] (S (strOf (decW n))):=by
 have hn:0<=n/\n<=999999:=of_decide_eq_true h
 have e:decW n=Lib.decDigits n.toNat:=by unfold decW;rw[if_pos h]
 have:=decimal_nat 5 n.toNat (by omega) (by decide)
 rw[show((n.toNat:Nat):Int)=n by omega] at this
 rw[e];exact this
theorem wordsL_at {k:Int} (h:1<=k/\k<=6):wordsL.getD (k - 1).toNat []=faultN k:=by
 have:k=1\/k=2\/k=3\/k=4\/k=5\/k=6:=by omega
 rcases this with rfl|rfl|rfl|rfl|rfl|rfl<;>rfl
theorem someB_step {l:List Flaw} {i:Nat} (h:i<l.length):someB (l.take (i+1))=someB (l.take i)++(32::wFault (l.getD i default)):=by
 have:l.take (i+1)=l.take i++[l.getD i default]:=by
  rw[List.take_succ,List.getElem?_eq_getElem h,List.getD_eq_getElem?_getD,List.getElem?_eq_getElem h];rfl
 rw[this,someB_app]
 simp[someB]
theorem someB_len:∀l:List Flaw,(someB l).length<=l.length*21
 |[]=>Nat.le_refl _
 |f::r=>by
  have h1:=someB_len r
  have h2:=wFault_len f
  show(32::wFault f++someB r).length<=_
  simp only[List.length_cons,List.length_append]
  omega
theorem rsome_sat (l:List Flaw) (hl:l.length<=1000) (hall:∀f∈l,(1<=f.k/\f.k<=6)/\numB f.n=true/\numB f.w=true):SatG Tryz.prog tab 39 [] [.sl (flaws l) false] [] (S (strOf (someB l))):=by
 have gw:=rwords_sat
 refine uFN Tryz.func39 Tryz.ntmps39 ?_;intro w e X hC
 repeat refine uA ?_
 refine uW ?_
 refine awp_loopW (fun i:Nat×Nat=>⟨[(0, .sl (flaws l) false),(3,S (strOf (someB (l.take i.2)))),(4,I i.2)],[],i.1⟩) (fun i=>i.2<=l.length) (fun i=>l.length - i.2) (_,0) (Nat.zero_le _) (uKF) ?_
 rintro⟨ck,i⟩ hi
 simp only at hi
 have hsl:=someB_len (l.take i)
 rw[List.length_take,Nat.min_eq_left hi] at hsl
 refine uA ?_
 refine uW ?_;refine condP _ rfl (fun h=>?_) (fun h=>?_)
 ·have hlt:i<l.length:=by omega
  have hm:l.getD i default∈l:=by rw[List.getD_eq_getElem?_getD,List.getElem?_eq_getElem hlt];exact List.getElem_mem hlt
  obtain⟨q1,q2,q3⟩:=hall _ hm
  have st:=someB_step hlt
  have g1:=rdec_sat _ q2
  have g2:=rdec_sat _ q3
  have w1:=wordsL_at q1
  have w2:(strs wordsL).getD ((l.getD i default).k - 1).toNat .bad=S (strOf (faultN (l.getD i default).k)):=by
   rw[strs_getD (by show _<6;omega),w1]
  have w3:(strs wordsL).length=6:=rfl
  have l1:=decW_len (l.getD i default).n
  have l2:=decW_len (l.getD i default).w
  have l3:=faultN_len (l.getD i default).k
  have fe:wFault (l.getD i default)=faultN (l.getD i default).k++[58]++decW (l.getD i default).n++[58]++decW (l.getD i default).w:=rfl
  have fg:=flaws_getD hlt
  generalize l.getD i default=f at*
  refine uD1 (uI @fg (uI @w3 @str_mk)) ?_;intro K hK
  refine uH ?_
  refine callP uTS (gw) uTS uTS uTS ?_;refine uS ?_
  try refine uS1 (uI @fg (uI @w2 (uI @w3 @str_mk))) ?_
  refine uH ?_
  refine callF uTS (g1) uTS uTS uTS ?_;refine uS ?_
  try refine uS1 (uI @fg (uI @w2 (uI @w3 @str_mk))) ?_
  refine uH ?_
  refine callF uTS (g2) uTS uTS uTS ?_;refine uS ?_
  try refine uS1 (uI @fg (uI @w2 (uI @w3 @str_mk))) ?_
  refine uH ?_
  refine hK _ ?_;clear hK K
  have st2:someB (l.take i)++[32]++faultN f.k++[58]++decW f.n++[58]++decW f.w=someB (l.take (i+1)):=by
   rw[st,fe]
   simp
  repeat refine uA ?_
  refine⟨(_,i+1),by simp only;omega,by simp only;omega, .of (Nat.le_refl _) uHF (uWF1 @st2)⟩
 ·refine awp_exit ?_
  have:i=l.length:=by omega
  subst this
  rw[List.take_length]
  repeat refine uA ?_
  (refine awp_ret (ret1 uRT ?_);try rfl)
open Go.Scr
theorem plainA_of {x:Acx} (h:plainA x=true):(1<=x.k/\x.k<=14)/\x=only x/\bodyB x=true:=by
 unfold plainA at h
 simpa only[Bool.and_eq_true,decide_eq_true_eq] using h
theorem bodyB_1 {x:Acx} (h:bodyB x=true) (hk:x.k=1):(∀f∈x.mv,flawB 1 2 f=true)/\∀f∈x.gl,flawB 3 6 f=true:=by
 unfold bodyB at h
 rw[if_pos hk] at h
 simp only[Bool.and_eq_true,List.all_eq_true] at h
 exact h
theorem bodyB_5 {x:Acx} (h:bodyB x=true) (hk:x.k=5):(1<=x.rev.k/\x.rev.k<=5)/\x.rev.flt.ok=true/\numB x.rev.amt=true:=by
 unfold bodyB at h
 rw[if_neg (by omega),if_neg (by omega),if_pos hk] at h
 unfold revB at h
 simp only[Bool.and_eq_true,decide_eq_true_eq] at h
 exact⟨h.1,h.2.1,h.2.2.1⟩
theorem bodyB_n {x:Acx} (h:bodyB x=true) (h1:x.k≠1) (h3:x.k≠3) (h5:x.k≠5) (h13:x.k≠13):numB x.node=true/\numB x.img=true/\numB x.dev=true/\numB x.con=true:=by
 unfold bodyB at h
 rw[if_neg h1,if_neg h3,if_neg h5,if_neg h13] at h
 split at h
 ·simp only[Bool.and_eq_true] at h
  exact nums_of h.2
 ·exact nums_of h
theorem lnB {x:Acx} (hx:SmA x):x.plt.fmt.length<=10/\x.flt.fmt.length<=10/\x.rev.flt.fmt.length<=10/\(decW x.node).length<=6/\(decW x.img).length<=6/\(decW x.dev).length<=6/\(decW x.con).length<=6/\(decW x.rev.amt).length<=6/\(swapB 10 124 x.txt).length=x.txt.length/\x.txt.length<=1000000/\(revN x.rev.k).length<=7/\(someB x.mv).length<=x.mv.length*21/\(someB x.gl).length<=x.gl.length*21/\x.mv.length<=1000/\x.gl.length<=1000:=
 ⟨pfmt_len _,ffmt_len _,ffmt_len _,decW_len _,decW_len _,decW_len _,decW_len _,decW_len _,swapB_length _ _ _,hx.tx,revN_len _,someB_len _,someB_len _,hx.mv,hx.gl⟩
theorem rline_bad (x:Acx) (hx:SmA x) (hp:plainA x=false):SatG Tryz.prog tab 13 [] [x.av] [] (.tup [S (strOf []),I 3]):=by
 have g0:=plain_sat x hx
 rw[hp] at g0
 refine uFN Tryz.func13 Tryz.ntmps13 ?_;intro w e X hC
 repeat refine uA ?_
 refine uR ?_;intro K hK
 refine uH ?_
 refine callF uTS (g0) uTS uTS uTS ?_;refine uS ?_
 refine uH ?_
 refine hK _ ?_;clear hK K
 refine uT ?_
 repeat refine uA ?_
 refine awp_ret ?_;rw[show Tryz.f13.results.toList=[.tmp 2, .tmp 3] from rfl];first|refine uRN ?_|exact uRM
 rfl
theorem rline_2 (x:Acx) (hx:SmA x) (hp:plainA x=true) (hk:x.k=2):SatG Tryz.prog tab 13 [] [x.av] [] (.tup [S (strOf (rlineB x)),I 0]):=by
 have g0:=plain_sat x hx
 rw[hp] at g0
 obtain⟨hk14,ho,hb⟩:=plainA_of hp
 have gp:=rpformat_sat x.plt
 obtain⟨lp,lf,lr,ln,li,ld,lc,la,lx,ht,lk,lm,lg,hm,hg⟩:=lnB hx
 have e1:=uDf (x.k=1)
 have e2:=uDt (x.k=2)
 have e3:=uDf (x.k=3)
 have e4:=uDf (x.k=4)
 have e5:=uDf (x.k=5)
 have e6:=uDf (x.k=6)
 have e7:=uDf (x.k=7)
 have e8:=uDf (x.k=8)
 have e9:=uDf (x.k=9)
 have e10:=uDf (x.k=10)
 have e11:=uDf (x.k=11)
 have e12:=uDf (x.k=12)
 have e13:=uDf (x.k=13)
 obtain⟨n1,n2,n3,n4⟩:=bodyB_n hb (by omega) (by omega) (by omega) (by omega)
 have d1:=rdec_sat _ n1
 have hT:rlineB x=sInduct++32::(x.plt.fmt++32::decW x.node):=by unfold rlineB;rw[if_neg (by omega:¬x.k=1),if_pos hk]
 rw[hT]
 refine uFN Tryz.func13 Tryz.ntmps13 ?_;intro w e X hC
 repeat refine uA ?_
 refine uR ?_;intro K hK
 refine uH ?_
 refine callF uTS (g0) uTS uTS uTS ?_;refine uS ?_
 refine uH ?_
 refine hK _ ?_;clear hK K
 refine uF ?_
 refine uR ?_;intro K hK
 refine uH ?_
 refine callF uTS (gp) uTS uTS uTS ?_;refine uS ?_
 refine uH ?_
 refine hK _ ?_;clear hK K
 repeat first|refine uC ?_|refine uA1 (uI @e1 (uI @e2 (uI @e3 (uI @e4 (uI @e5 (uI @e6 (uI @e7 (uI @e8 (uI @e9 (uI @e10 (uI @e11 (uI @e12 @e13)))))))))))) ?_
 refine uR1 @str_mk ?_;intro K hK
 refine uH ?_
 refine callF uTS (d1) uTS uTS uTS ?_;refine uS ?_
 try refine uS1 @str_mk ?_
 refine uH ?_
 refine hK _ ?_;clear hK K
 refine awp_ret ?_;rw[show Tryz.f13.results.toList=[.tmp 2, .tmp 3] from rfl];first|refine uRN ?_|exact uRM
 try first|rfl|simp[sInduct,sVerdict,sBreak,sRepair,sLoad,sUnload,sPick,sOffline,sOnline,sDepart,sMessage,sClear,sAlarm]
theorem rline_3 (x:Acx) (hx:SmA x) (hp:plainA x=true) (hk:x.k=3):SatG Tryz.prog tab 13 [] [x.av] [] (.tup [S (strOf (rlineB x)),I 0]):=by
 have g0:=plain_sat x hx
 rw[hp] at g0
 obtain⟨hk14,ho,hb⟩:=plainA_of hp
 have gp:=rpformat_sat x.plt
 obtain⟨lp,lf,lr,ln,li,ld,lc,la,lx,ht,lk,lm,lg,hm,hg⟩:=lnB hx
 have e1:=uDf (x.k=1)
 have e2:=uDf (x.k=2)
 have e3:=uDt (x.k=3)
 have e4:=uDf (x.k=4)
 have e5:=uDf (x.k=5)
 have e6:=uDf (x.k=6)
 have e7:=uDf (x.k=7)
 have e8:=uDf (x.k=8)
 have e9:=uDf (x.k=9)
 have e10:=uDf (x.k=10)
 have e11:=uDf (x.k=11)
 have e12:=uDf (x.k=12)
 have e13:=uDf (x.k=13)
 have d1:=rbars_sat x.txt 10 124 hx.tx
 have hT:rlineB x=sMessage++32::swapB 10 124 x.txt:=by unfold rlineB;rw[if_neg (by omega:¬x.k=1),if_neg (by omega:¬x.k=2),if_pos hk]
 rw[hT]
 refine uFN Tryz.func13 Tryz.ntmps13 ?_;intro w e X hC
 repeat refine uA ?_
 refine uR ?_;intro K hK
 refine uH ?_
 refine callF uTS (g0) uTS uTS uTS ?_;refine uS ?_
 refine uH ?_
 refine hK _ ?_;clear hK K
 refine uF ?_
 refine uR ?_;intro K hK
 refine uH ?_
 refine callF uTS (gp) uTS uTS uTS ?_;refine uS ?_
 refine uH ?_
 refine hK _ ?_;clear hK K
 repeat first|refine uC ?_|refine uA1 (uI @e1 (uI @e2 (uI @e3 (uI @e4 (uI @e5 (uI @e6 (uI @e7 (uI @e8 (uI @e9 (uI @e10 (uI @e11 (uI @e12 @e13)))))))))))) ?_
 refine uR1 @str_mk ?_;intro K hK
 refine uH ?_
 refine callF uTS (d1) uTS uTS uTS ?_;refine uS ?_
 try refine uS1 @str_mk ?_
 refine uH ?_
 refine hK _ ?_;clear hK K
 refine awp_ret ?_;rw[show Tryz.f13.results.toList=[.tmp 2, .tmp 3] from rfl];first|refine uRN ?_|exact uRM
 try first|rfl|simp[sInduct,sVerdict,sBreak,sRepair,sLoad,sUnload,sPick,sOffline,sOnline,sDepart,sMessage,sClear,sAlarm]
theorem rline_6 (x:Acx) (hx:SmA x) (hp:plainA x=true) (hk:x.k=6):SatG Tryz.prog tab 13 [] [x.av] [] (.tup [S (strOf (rlineB x)),I 0]):=by
 have g0:=plain_sat x hx
 rw[hp] at g0
 obtain⟨hk14,ho,hb⟩:=plainA_of hp
 have gp:=rpformat_sat x.plt
 obtain⟨lp,lf,lr,ln,li,ld,lc,la,lx,ht,lk,lm,lg,hm,hg⟩:=lnB hx
 have e1:=uDf (x.k=1)
 have e2:=uDf (x.k=2)
 have e3:=uDf (x.k=3)
 have e4:=uDf (x.k=4)
 have e5:=uDf (x.k=5)
 have e6:=uDt (x.k=6)
 have e7:=uDf (x.k=7)
 have e8:=uDf (x.k=8)
 have e9:=uDf (x.k=9)
 have e10:=uDf (x.k=10)
 have e11:=uDf (x.k=11)
 have e12:=uDf (x.k=12)
 have e13:=uDf (x.k=13)
 obtain⟨n1,n2,n3,n4⟩:=bodyB_n hb (by omega) (by omega) (by omega) (by omega)
 have d1:=rdec_sat _ n1
 have hT:rlineB x=sBreak++32::decW x.node:=by unfold rlineB;rw[if_neg (by omega:¬x.k=1),if_neg (by omega:¬x.k=2),if_neg (by omega:¬x.k=3),if_neg (by omega:¬x.k=4),if_neg (by omega:¬x.k=5),if_pos hk]
 rw[hT]
 refine uFN Tryz.func13 Tryz.ntmps13 ?_;intro w e X hC
 repeat refine uA ?_
 refine uR ?_;intro K hK
 refine uH ?_
 refine callF uTS (g0) uTS uTS uTS ?_;refine uS ?_
 refine uH ?_
 refine hK _ ?_;clear hK K
 refine uF ?_
 refine uR ?_;intro K hK
 refine uH ?_
 refine callF uTS (gp) uTS uTS uTS ?_;refine uS ?_
 refine uH ?_
 refine hK _ ?_;clear hK K
 repeat first|refine uC ?_|refine uA1 (uI @e1 (uI @e2 (uI @e3 (uI @e4 (uI @e5 (uI @e6 (uI @e7 (uI @e8 (uI @e9 (uI @e10 (uI @e11 (uI @e12 @e13)))))))))))) ?_
 refine uR1 @str_mk ?_;intro K hK
 refine uH ?_
 refine callF uTS (d1) uTS uTS uTS ?_;refine uS ?_
 try refine uS1 @str_mk ?_
 refine uH ?_
 refine hK _ ?_;clear hK K
 refine awp_ret ?_;rw[show Tryz.f13.results.toList=[.tmp 2, .tmp 3] from rfl];first|refine uRN ?_|exact uRM
 try first|rfl|simp[sInduct,sVerdict,sBreak,sRepair,sLoad,sUnload,sPick,sOffline,sOnline,sDepart,sMessage,sClear,sAlarm]
theorem rline_7 (x:Acx) (hx:SmA x) (hp:plainA x=true) (hk:x.k=7):SatG Tryz.prog tab 13 [] [x.av] [] (.tup [S (strOf (rlineB x)),I 0]):=by
 have g0:=plain_sat x hx
 rw[hp] at g0
 obtain⟨hk14,ho,hb⟩:=plainA_of hp
 have gp:=rpformat_sat x.plt
 obtain⟨lp,lf,lr,ln,li,ld,lc,la,lx,ht,lk,lm,lg,hm,hg⟩:=lnB hx
 have e1:=uDf (x.k=1)
 have e2:=uDf (x.k=2)
 have e3:=uDf (x.k=3)
 have e4:=uDf (x.k=4)
 have e5:=uDf (x.k=5)
 have e6:=uDf (x.k=6)
 have e7:=uDt (x.k=7)
 have e8:=uDf (x.k=8)
 have e9:=uDf (x.k=9)
 have e10:=uDf (x.k=10)
 have e11:=uDf (x.k=11)
 have e12:=uDf (x.k=12)
 have e13:=uDf (x.k=13)
 obtain⟨n1,n2,n3,n4⟩:=bodyB_n hb (by omega) (by omega) (by omega) (by omega)
 have d1:=rdec_sat _ n1
 have hT:rlineB x=sRepair++32::decW x.node:=by unfold rlineB;rw[if_neg (by omega:¬x.k=1),if_neg (by omega:¬x.k=2),if_neg (by omega:¬x.k=3),if_neg (by omega:¬x.k=4),if_neg (by omega:¬x.k=5),if_neg (by omega:¬x.k=6),if_pos hk]
 rw[hT]
 refine uFN Tryz.func13 Tryz.ntmps13 ?_;intro w e X hC
 repeat refine uA ?_
 refine uR ?_;intro K hK
 refine uH ?_
 refine callF uTS (g0) uTS uTS uTS ?_;refine uS ?_
 refine uH ?_
 refine hK _ ?_;clear hK K
 refine uF ?_
 refine uR ?_;intro K hK
 refine uH ?_
 refine callF uTS (gp) uTS uTS uTS ?_;refine uS ?_
 refine uH ?_
 refine hK _ ?_;clear hK K
 repeat first|refine uC ?_|refine uA1 (uI @e1 (uI @e2 (uI @e3 (uI @e4 (uI @e5 (uI @e6 (uI @e7 (uI @e8 (uI @e9 (uI @e10 (uI @e11 (uI @e12 @e13)))))))))))) ?_
 refine uR1 @str_mk ?_;intro K hK
 refine uH ?_
 refine callF uTS (d1) uTS uTS uTS ?_;refine uS ?_
 try refine uS1 @str_mk ?_
 refine uH ?_
 refine hK _ ?_;clear hK K
 refine awp_ret ?_;rw[show Tryz.f13.results.toList=[.tmp 2, .tmp 3] from rfl];first|refine uRN ?_|exact uRM
 try first|rfl|simp[sInduct,sVerdict,sBreak,sRepair,sLoad,sUnload,sPick,sOffline,sOnline,sDepart,sMessage,sClear,sAlarm]
theorem rline_8 (x:Acx) (hx:SmA x) (hp:plainA x=true) (hk:x.k=8):SatG Tryz.prog tab 13 [] [x.av] [] (.tup [S (strOf (rlineB x)),I 0]):=by
 have g0:=plain_sat x hx
 rw[hp] at g0
 obtain⟨hk14,ho,hb⟩:=plainA_of hp
 have gp:=rpformat_sat x.plt
 obtain⟨lp,lf,lr,ln,li,ld,lc,la,lx,ht,lk,lm,lg,hm,hg⟩:=lnB hx
 have e1:=uDf (x.k=1)
 have e2:=uDf (x.k=2)
 have e3:=uDf (x.k=3)
 have e4:=uDf (x.k=4)
 have e5:=uDf (x.k=5)
 have e6:=uDf (x.k=6)
 have e7:=uDf (x.k=7)
 have e8:=uDt (x.k=8)
 have e9:=uDf (x.k=9)
 have e10:=uDf (x.k=10)
 have e11:=uDf (x.k=11)
 have e12:=uDf (x.k=12)
 have e13:=uDf (x.k=13)
 obtain⟨n1,n2,n3,n4⟩:=bodyB_n hb (by omega) (by omega) (by omega) (by omega)
 have d1:=rdec_sat _ n3
 have d2:=rdec_sat _ n1
 have d3:=rdec_sat _ n4
 have hT:rlineB x=sLoad++32::(decW x.dev++32::(x.plt.fmt++32::(decW x.node++32::decW x.con))):=by unfold rlineB;rw[if_neg (by omega:¬x.k=1),if_neg (by omega:¬x.k=2),if_neg (by omega:¬x.k=3),if_neg (by omega:¬x.k=4),if_neg (by omega:¬x.k=5),if_neg (by omega:¬x.k=6),if_neg (by omega:¬x.k=7),if_pos hk]
 rw[hT]
 refine uFN Tryz.func13 Tryz.ntmps13 ?_;intro w e X hC
 repeat refine uA ?_
 refine uR ?_;intro K hK
 refine uH ?_
 refine callF uTS (g0) uTS uTS uTS ?_;refine uS ?_
 refine uH ?_
 refine hK _ ?_;clear hK K
 refine uF ?_
 refine uR ?_;intro K hK
 refine uH ?_
 refine callF uTS (gp) uTS uTS uTS ?_;refine uS ?_
 refine uH ?_
 refine hK _ ?_;clear hK K
 repeat first|refine uC ?_|refine uA1 (uI @e1 (uI @e2 (uI @e3 (uI @e4 (uI @e5 (uI @e6 (uI @e7 (uI @e8 (uI @e9 (uI @e10 (uI @e11 (uI @e12 @e13)))))))))))) ?_
 refine uD1 @str_mk ?_;intro K hK
 refine uH ?_
 refine callF uTS (d1) uTS uTS uTS ?_;refine uS ?_
 try refine uS1 @str_mk ?_
 refine uH ?_
 refine callF uTS (d2) uTS uTS uTS ?_;refine uS ?_
 try refine uS1 @str_mk ?_
 refine uH ?_
 refine callF uTS (d3) uTS uTS uTS ?_;refine uS ?_
 try refine uS1 @str_mk ?_
 refine uH ?_
 refine hK _ ?_;clear hK K
 refine awp_ret ?_;rw[show Tryz.f13.results.toList=[.tmp 2, .tmp 3] from rfl];first|refine uRN ?_|exact uRM
 try first|rfl|simp[sInduct,sVerdict,sBreak,sRepair,sLoad,sUnload,sPick,sOffline,sOnline,sDepart,sMessage,sClear,sAlarm]
theorem rline_9 (x:Acx) (hx:SmA x) (hp:plainA x=true) (hk:x.k=9):SatG Tryz.prog tab 13 [] [x.av] [] (.tup [S (strOf (rlineB x)),I 0]):=by
 have g0:=plain_sat x hx
 rw[hp] at g0
 obtain⟨hk14,ho,hb⟩:=plainA_of hp
 have gp:=rpformat_sat x.plt
 obtain⟨lp,lf,lr,ln,li,ld,lc,la,lx,ht,lk,lm,lg,hm,hg⟩:=lnB hx
 have e1:=uDf (x.k=1)
 have e2:=uDf (x.k=2)
 have e3:=uDf (x.k=3)
 have e4:=uDf (x.k=4)
 have e5:=uDf (x.k=5)
 have e6:=uDf (x.k=6)
 have e7:=uDf (x.k=7)
 have e8:=uDf (x.k=8)
 have e9:=uDt (x.k=9)
 have e10:=uDf (x.k=10)
 have e11:=uDf (x.k=11)
 have e12:=uDf (x.k=12)
 have e13:=uDf (x.k=13)
 obtain⟨n1,n2,n3,n4⟩:=bodyB_n hb (by omega) (by omega) (by omega) (by omega)
 have d1:=rdec_sat _ n3
 have d2:=rdec_sat _ n4
 have hT:rlineB x=sUnload++32::(decW x.dev++32::(x.plt.fmt++32::decW x.con)):=by unfold rlineB;rw[if_neg (by omega:¬x.k=1),if_neg (by omega:¬x.k=2),if_neg (by omega:¬x.k=3),if_neg (by omega:¬x.k=4),if_neg (by omega:¬x.k=5),if_neg (by omega:¬x.k=6),if_neg (by omega:¬x.k=7),if_neg (by omega:¬x.k=8),if_pos hk]
 rw[hT]
 refine uFN Tryz.func13 Tryz.ntmps13 ?_;intro w e X hC
 repeat refine uA ?_
 refine uR ?_;intro K hK
 refine uH ?_
 refine callF uTS (g0) uTS uTS uTS ?_;refine uS ?_
 refine uH ?_
 refine hK _ ?_;clear hK K
 refine uF ?_
 refine uR ?_;intro K hK
 refine uH ?_
 refine callF uTS (gp) uTS uTS uTS ?_;refine uS ?_
 refine uH ?_
 refine hK _ ?_;clear hK K
 repeat first|refine uC ?_|refine uA1 (uI @e1 (uI @e2 (uI @e3 (uI @e4 (uI @e5 (uI @e6 (uI @e7 (uI @e8 (uI @e9 (uI @e10 (uI @e11 (uI @e12 @e13)))))))))))) ?_
 refine uD1 @str_mk ?_;intro K hK
 refine uH ?_
 refine callF uTS (d1) uTS uTS uTS ?_;refine uS ?_
 try refine uS1 @str_mk ?_
 refine uH ?_
 refine callF uTS (d2) uTS uTS uTS ?_;refine uS ?_
 try refine uS1 @str_mk ?_
 refine uH ?_
 refine hK _ ?_;clear hK K
 refine awp_ret ?_;rw[show Tryz.f13.results.toList=[.tmp 2, .tmp 3] from rfl];first|refine uRN ?_|exact uRM
 try first|rfl|simp[sInduct,sVerdict,sBreak,sRepair,sLoad,sUnload,sPick,sOffline,sOnline,sDepart,sMessage,sClear,sAlarm]
theorem rline_10 (x:Acx) (hx:SmA x) (hp:plainA x=true) (hk:x.k=10):SatG Tryz.prog tab 13 [] [x.av] [] (.tup [S (strOf (rlineB x)),I 0]):=by
 have g0:=plain_sat x hx
 rw[hp] at g0
 obtain⟨hk14,ho,hb⟩:=plainA_of hp
 have gp:=rpformat_sat x.plt
 obtain⟨lp,lf,lr,ln,li,ld,lc,la,lx,ht,lk,lm,lg,hm,hg⟩:=lnB hx
 have e1:=uDf (x.k=1)
 have e2:=uDf (x.k=2)
 have e3:=uDf (x.k=3)
 have e4:=uDf (x.k=4)
 have e5:=uDf (x.k=5)
 have e6:=uDf (x.k=6)
 have e7:=uDf (x.k=7)
 have e8:=uDf (x.k=8)
 have e9:=uDf (x.k=9)
 have e10:=uDt (x.k=10)
 have e11:=uDf (x.k=11)
 have e12:=uDf (x.k=12)
 have e13:=uDf (x.k=13)
 obtain⟨n1,n2,n3,n4⟩:=bodyB_n hb (by omega) (by omega) (by omega) (by omega)
 have d1:=rdec_sat _ n1
 have hT:rlineB x=sPick++32::(x.plt.fmt++32::decW x.node):=by unfold rlineB;rw[if_neg (by omega:¬x.k=1),if_neg (by omega:¬x.k=2),if_neg (by omega:¬x.k=3),if_neg (by omega:¬x.k=4),if_neg (by omega:¬x.k=5),if_neg (by omega:¬x.k=6),if_neg (by omega:¬x.k=7),if_neg (by omega:¬x.k=8),if_neg (by omega:¬x.k=9),if_pos hk]
 rw[hT]
 refine uFN Tryz.func13 Tryz.ntmps13 ?_;intro w e X hC
 repeat refine uA ?_
 refine uR ?_;intro K hK
 refine uH ?_
 refine callF uTS (g0) uTS uTS uTS ?_;refine uS ?_
 refine uH ?_
 refine hK _ ?_;clear hK K
 refine uF ?_
 refine uR ?_;intro K hK
 refine uH ?_
 refine callF uTS (gp) uTS uTS uTS ?_;refine uS ?_
 refine uH ?_
 refine hK _ ?_;clear hK K
 repeat first|refine uC ?_|refine uA1 (uI @e1 (uI @e2 (uI @e3 (uI @e4 (uI @e5 (uI @e6 (uI @e7 (uI @e8 (uI @e9 (uI @e10 (uI @e11 (uI @e12 @e13)))))))))))) ?_
 refine uR1 @str_mk ?_;intro K hK
 refine uH ?_
 refine callF uTS (d1) uTS uTS uTS ?_;refine uS ?_
 try refine uS1 @str_mk ?_
 refine uH ?_
 refine hK _ ?_;clear hK K
 refine awp_ret ?_;rw[show Tryz.f13.results.toList=[.tmp 2, .tmp 3] from rfl];first|refine uRN ?_|exact uRM
 try first|rfl|simp[sInduct,sVerdict,sBreak,sRepair,sLoad,sUnload,sPick,sOffline,sOnline,sDepart,sMessage,sClear,sAlarm]
theorem rline_11 (x:Acx) (hx:SmA x) (hp:plainA x=true) (hk:x.k=11):SatG Tryz.prog tab 13 [] [x.av] [] (.tup [S (strOf (rlineB x)),I 0]):=by
 have g0:=plain_sat x hx
 rw[hp] at g0
 obtain⟨hk14,ho,hb⟩:=plainA_of hp
 have gp:=rpformat_sat x.plt
 obtain⟨lp,lf,lr,ln,li,ld,lc,la,lx,ht,lk,lm,lg,hm,hg⟩:=lnB hx
 have e1:=uDf (x.k=1)
 have e2:=uDf (x.k=2)
 have e3:=uDf (x.k=3)
 have e4:=uDf (x.k=4)
 have e5:=uDf (x.k=5)
 have e6:=uDf (x.k=6)
 have e7:=uDf (x.k=7)
 have e8:=uDf (x.k=8)
 have e9:=uDf (x.k=9)
 have e10:=uDf (x.k=10)
 have e11:=uDt (x.k=11)
 have e12:=uDf (x.k=12)
 have e13:=uDf (x.k=13)
 obtain⟨n1,n2,n3,n4⟩:=bodyB_n hb (by omega) (by omega) (by omega) (by omega)
 have d1:=rdec_sat _ n3
 have hT:rlineB x=sOffline++32::decW x.dev:=by unfold rlineB;rw[if_neg (by omega:¬x.k=1),if_neg (by omega:¬x.k=2),if_neg (by omega:¬x.k=3),if_neg (by omega:¬x.k=4),if_neg (by omega:¬x.k=5),if_neg (by omega:¬x.k=6),if_neg (by omega:¬x.k=7),if_neg (by omega:¬x.k=8),if_neg (by omega:¬x.k=9),if_neg (by omega:¬x.k=10),if_pos hk]
 rw[hT]
 refine uFN Tryz.func13 Tryz.ntmps13 ?_;intro w e X hC
 repeat refine uA ?_
 refine uR ?_;intro K hK
 refine uH ?_
 refine callF uTS (g0) uTS uTS uTS ?_;refine uS ?_
 refine uH ?_
 refine hK _ ?_;clear hK K
 refine uF ?_
 refine uR ?_;intro K hK
 refine uH ?_
 refine callF uTS (gp) uTS uTS uTS ?_;refine uS ?_
 refine uH ?_
 refine hK _ ?_;clear hK K
 repeat first|refine uC ?_|refine uA1 (uI @e1 (uI @e2 (uI @e3 (uI @e4 (uI @e5 (uI @e6 (uI @e7 (uI @e8 (uI @e9 (uI @e10 (uI @e11 (uI @e12 @e13)))))))))))) ?_
 refine uR1 @str_mk ?_;intro K hK
 refine uH ?_
 refine callF uTS (d1) uTS uTS uTS ?_;refine uS ?_
 try refine uS1 @str_mk ?_
 refine uH ?_
 refine hK _ ?_;clear hK K
 refine awp_ret ?_;rw[show Tryz.f13.results.toList=[.tmp 2, .tmp 3] from rfl];first|refine uRN ?_|exact uRM
 try first|rfl|simp[sInduct,sVerdict,sBreak,sRepair,sLoad,sUnload,sPick,sOffline,sOnline,sDepart,sMessage,sClear,sAlarm]
theorem rline_12 (x:Acx) (hx:SmA x) (hp:plainA x=true) (hk:x.k=12):SatG Tryz.prog tab 13 [] [x.av] [] (.tup [S (strOf (rlineB x)),I 0]):=by
 have g0:=plain_sat x hx
 rw[hp] at g0
 obtain⟨hk14,ho,hb⟩:=plainA_of hp
 have gp:=rpformat_sat x.plt
 obtain⟨lp,lf,lr,ln,li,ld,lc,la,lx,ht,lk,lm,lg,hm,hg⟩:=lnB hx
 have e1:=uDf (x.k=1)
 have e2:=uDf (x.k=2)
 have e3:=uDf (x.k=3)
 have e4:=uDf (x.k=4)
 have e5:=uDf (x.k=5)
 have e6:=uDf (x.k=6)
 have e7:=uDf (x.k=7)
 have e8:=uDf (x.k=8)
 have e9:=uDf (x.k=9)
 have e10:=uDf (x.k=10)
 have e11:=uDf (x.k=11)
 have e12:=uDt (x.k=12)
 have e13:=uDf (x.k=13)
 obtain⟨n1,n2,n3,n4⟩:=bodyB_n hb (by omega) (by omega) (by omega) (by omega)
 have d1:=rdec_sat _ n3
 have hT:rlineB x=sOnline++32::decW x.dev:=by unfold rlineB;rw[if_neg (by omega:¬x.k=1),if_neg (by omega:¬x.k=2),if_neg (by omega:¬x.k=3),if_neg (by omega:¬x.k=4),if_neg (by omega:¬x.k=5),if_neg (by omega:¬x.k=6),if_neg (by omega:¬x.k=7),if_neg (by omega:¬x.k=8),if_neg (by omega:¬x.k=9),if_neg (by omega:¬x.k=10),if_neg (by omega:¬x.k=11),if_pos hk]
 rw[hT]
 refine uFN Tryz.func13 Tryz.ntmps13 ?_;intro w e X hC
 repeat refine uA ?_
 refine uR ?_;intro K hK
 refine uH ?_
 refine callF uTS (g0) uTS uTS uTS ?_;refine uS ?_
 refine uH ?_
 refine hK _ ?_;clear hK K
 refine uF ?_
 refine uR ?_;intro K hK
 refine uH ?_
 refine callF uTS (gp) uTS uTS uTS ?_;refine uS ?_
 refine uH ?_
 refine hK _ ?_;clear hK K
 repeat first|refine uC ?_|refine uA1 (uI @e1 (uI @e2 (uI @e3 (uI @e4 (uI @e5 (uI @e6 (uI @e7 (uI @e8 (uI @e9 (uI @e10 (uI @e11 (uI @e12 @e13)))))))))))) ?_
 refine uR1 @str_mk ?_;intro K hK
 refine uH ?_
 refine callF uTS (d1) uTS uTS uTS ?_;refine uS ?_
 try refine uS1 @str_mk ?_
 refine uH ?_
 refine hK _ ?_;clear hK K
 refine awp_ret ?_;rw[show Tryz.f13.results.toList=[.tmp 2, .tmp 3] from rfl];first|refine uRN ?_|exact uRM
 try first|rfl|simp[sInduct,sVerdict,sBreak,sRepair,sLoad,sUnload,sPick,sOffline,sOnline,sDepart,sMessage,sClear,sAlarm]
theorem rline_13 (x:Acx) (hx:SmA x) (hp:plainA x=true) (hk:x.k=13):SatG Tryz.prog tab 13 [] [x.av] [] (.tup [S (strOf (rlineB x)),I 0]):=by
 have g0:=plain_sat x hx
 rw[hp] at g0
 obtain⟨hk14,ho,hb⟩:=plainA_of hp
 have gp:=rpformat_sat x.plt
 obtain⟨lp,lf,lr,ln,li,ld,lc,la,lx,ht,lk,lm,lg,hm,hg⟩:=lnB hx
 have e1:=uDf (x.k=1)
 have e2:=uDf (x.k=2)
 have e3:=uDf (x.k=3)
 have e4:=uDf (x.k=4)
 have e5:=uDf (x.k=5)
 have e6:=uDf (x.k=6)
 have e7:=uDf (x.k=7)
 have e8:=uDf (x.k=8)
 have e9:=uDf (x.k=9)
 have e10:=uDf (x.k=10)
 have e11:=uDf (x.k=11)
 have e12:=uDf (x.k=12)
 have e13:=uDt (x.k=13)
 have d1:=rfformat_sat x.flt hx.fc hx.fs
 have hT:rlineB x=sDepart++32::x.flt.fmt:=by unfold rlineB;rw[if_neg (by omega:¬x.k=1),if_neg (by omega:¬x.k=2),if_neg (by omega:¬x.k=3),if_neg (by omega:¬x.k=4),if_neg (by omega:¬x.k=5),if_neg (by omega:¬x.k=6),if_neg (by omega:¬x.k=7),if_neg (by omega:¬x.k=8),if_neg (by omega:¬x.k=9),if_neg (by omega:¬x.k=10),if_neg (by omega:¬x.k=11),if_neg (by omega:¬x.k=12),if_pos hk]
 rw[hT]
 refine uFN Tryz.func13 Tryz.ntmps13 ?_;intro w e X hC
 repeat refine uA ?_
 refine uR ?_;intro K hK
 refine uH ?_
 refine callF uTS (g0) uTS uTS uTS ?_;refine uS ?_
 refine uH ?_
 refine hK _ ?_;clear hK K
 refine uF ?_
 refine uR ?_;intro K hK
 refine uH ?_
 refine callF uTS (gp) uTS uTS uTS ?_;refine uS ?_
 refine uH ?_
 refine hK _ ?_;clear hK K
 repeat first|refine uC ?_|refine uA1 (uI @e1 (uI @e2 (uI @e3 (uI @e4 (uI @e5 (uI @e6 (uI @e7 (uI @e8 (uI @e9 (uI @e10 (uI @e11 (uI @e12 @e13)))))))))))) ?_
 refine uR1 @str_mk ?_;intro K hK
 refine uH ?_
 refine callF uTS (d1) uTS uTS uTS ?_;refine uS ?_
 try refine uS1 @str_mk ?_
 refine uH ?_
 refine hK _ ?_;clear hK K
 refine awp_ret ?_;rw[show Tryz.f13.results.toList=[.tmp 2, .tmp 3] from rfl];first|refine uRN ?_|exact uRM
 try first|rfl|simp[sInduct,sVerdict,sBreak,sRepair,sLoad,sUnload,sPick,sOffline,sOnline,sDepart,sMessage,sClear,sAlarm]
theorem rline_14 (x:Acx) (hx:SmA x) (hp:plainA x=true) (hk:x.k=14):SatG Tryz.prog tab 13 [] [x.av] [] (.tup [S (strOf (rlineB x)),I 0]):=by
 have g0:=plain_sat x hx
 rw[hp] at g0
 obtain⟨hk14,ho,hb⟩:=plainA_of hp
 have gp:=rpformat_sat x.plt
 obtain⟨lp,lf,lr,ln,li,ld,lc,la,lx,ht,lk,lm,lg,hm,hg⟩:=lnB hx
 have e1:=uDf (x.k=1)
 have e2:=uDf (x.k=2)
 have e3:=uDf (x.k=3)
 have e4:=uDf (x.k=4)
 have e5:=uDf (x.k=5)
 have e6:=uDf (x.k=6)
 have e7:=uDf (x.k=7)
 have e8:=uDf (x.k=8)
 have e9:=uDf (x.k=9)
 have e10:=uDf (x.k=10)
 have e11:=uDf (x.k=11)
 have e12:=uDf (x.k=12)
 have e13:=uDf (x.k=13)
 have hT:rlineB x=sCrash:=by unfold rlineB;rw[if_neg (by omega:¬x.k=1),if_neg (by omega:¬x.k=2),if_neg (by omega:¬x.k=3),if_neg (by omega:¬x.k=4),if_neg (by omega:¬x.k=5),if_neg (by omega:¬x.k=6),if_neg (by omega:¬x.k=7),if_neg (by omega:¬x.k=8),if_neg (by omega:¬x.k=9),if_neg (by omega:¬x.k=10),if_neg (by omega:¬x.k=11),if_neg (by omega:¬x.k=12),if_neg (by omega)]
 rw[hT]
 refine uFN Tryz.func13 Tryz.ntmps13 ?_;intro w e X hC
 repeat refine uA ?_
 refine uR ?_;intro K hK
 refine uH ?_
 refine callF uTS (g0) uTS uTS uTS ?_;refine uS ?_
 refine uH ?_
 refine hK _ ?_;clear hK K
 refine uF ?_
 refine uR ?_;intro K hK
 refine uH ?_
 refine callF uTS (gp) uTS uTS uTS ?_;refine uS ?_
 refine uH ?_
 refine hK _ ?_;clear hK K
 repeat first|refine uC ?_|refine uA1 (uI @e1 (uI @e2 (uI @e3 (uI @e4 (uI @e5 (uI @e6 (uI @e7 (uI @e8 (uI @e9 (uI @e10 (uI @e11 (uI @e12 @e13)))))))))))) ?_
 repeat refine uA ?_
 refine awp_ret ?_;rw[show Tryz.f13.results.toList=[.tmp 2, .tmp 3] from rfl];first|refine uRN ?_|exact uRM
 rfl
theorem rline_4t (x:Acx) (hx:SmA x) (hp:plainA x=true) (hk:x.k=4) (hc:x.clr=true):SatG Tryz.prog tab 13 [] [x.av] [] (.tup [S (strOf (rlineB x)),I 0]):=by
 have g0:=plain_sat x hx
 rw[hp] at g0
 obtain⟨hk14,ho,hb⟩:=plainA_of hp
 have gp:=rpformat_sat x.plt
 obtain⟨lp,lf,lr,ln,li,ld,lc,la,lx,ht,lk,lm,lg,hm,hg⟩:=lnB hx
 have e1:=uDf (x.k=1)
 have e2:=uDf (x.k=2)
 have e3:=uDf (x.k=3)
 have e4:=uDt (x.k=4)
 have e5:=uDf (x.k=5)
 have e6:=uDf (x.k=6)
 have e7:=uDf (x.k=7)
 have e8:=uDf (x.k=8)
 have e9:=uDf (x.k=9)
 have e10:=uDf (x.k=10)
 have e11:=uDf (x.k=11)
 have e12:=uDf (x.k=12)
 have e13:=uDf (x.k=13)
 obtain⟨n1,n2,n3,n4⟩:=bodyB_n hb (by omega) (by omega) (by omega) (by omega)
 have d1:=rdec_sat _ n2
 have hT:rlineB x=sVerdict++32::(decW x.img++32::sClear):=by unfold rlineB;rw[if_neg (by omega:¬x.k=1),if_neg (by omega:¬x.k=2),if_neg (by omega:¬x.k=3),if_pos hk,hc];rfl
 rw[hT]
 refine uFN Tryz.func13 Tryz.ntmps13 ?_;intro w e X hC
 repeat refine uA ?_
 refine uR ?_;intro K hK
 refine uH ?_
 refine callF uTS (g0) uTS uTS uTS ?_;refine uS ?_
 refine uH ?_
 refine hK _ ?_;clear hK K
 refine uF ?_
 refine uR ?_;intro K hK
 refine uH ?_
 refine callF uTS (gp) uTS uTS uTS ?_;refine uS ?_
 refine uH ?_
 refine hK _ ?_;clear hK K
 repeat first|refine uC ?_|refine uA1 (uI @e1 (uI @e2 (uI @e3 (uI @e4 (uI @e5 (uI @e6 (uI @e7 (uI @e8 (uI @e9 (uI @e10 (uI @e11 (uI @e12 (uI @e13 @hc))))))))))))) ?_
 refine uR1 @str_mk ?_;intro K hK
 refine uH ?_
 refine callF uTS (d1) uTS uTS uTS ?_;refine uS ?_
 try refine uS1 @str_mk ?_
 refine uH ?_
 refine hK _ ?_;clear hK K
 refine awp_ret ?_;rw[show Tryz.f13.results.toList=[.tmp 2, .tmp 3] from rfl];first|refine uRN ?_|exact uRM
 try first|rfl|simp[sVerdict,sClear,sAlarm]
theorem rline_4f (x:Acx) (hx:SmA x) (hp:plainA x=true) (hk:x.k=4) (hc:x.clr=false):SatG Tryz.prog tab 13 [] [x.av] [] (.tup [S (strOf (rlineB x)),I 0]):=by
 have g0:=plain_sat x hx
 rw[hp] at g0
 obtain⟨hk14,ho,hb⟩:=plainA_of hp
 have gp:=rpformat_sat x.plt
 obtain⟨lp,lf,lr,ln,li,ld,lc,la,lx,ht,lk,lm,lg,hm,hg⟩:=lnB hx
 have e1:=uDf (x.k=1)
 have e2:=uDf (x.k=2)
 have e3:=uDf (x.k=3)
 have e4:=uDt (x.k=4)
 have e5:=uDf (x.k=5)
 have e6:=uDf (x.k=6)
 have e7:=uDf (x.k=7)
 have e8:=uDf (x.k=8)
 have e9:=uDf (x.k=9)
 have e10:=uDf (x.k=10)
 have e11:=uDf (x.k=11)
 have e12:=uDf (x.k=12)
 have e13:=uDf (x.k=13)
 obtain⟨n1,n2,n3,n4⟩:=bodyB_n hb (by omega) (by omega) (by omega) (by omega)
 have d1:=rdec_sat _ n2
 have hT:rlineB x=sVerdict++32::(decW x.img++32::sAlarm):=by unfold rlineB;rw[if_neg (by omega:¬x.k=1),if_neg (by omega:¬x.k=2),if_neg (by omega:¬x.k=3),if_pos hk,hc];rfl
 rw[hT]
 refine uFN Tryz.func13 Tryz.ntmps13 ?_;intro w e X hC
 repeat refine uA ?_
 refine uR ?_;intro K hK
 refine uH ?_
 refine callF uTS (g0) uTS uTS uTS ?_;refine uS ?_
 refine uH ?_
 refine hK _ ?_;clear hK K
 refine uF ?_
 refine uR ?_;intro K hK
 refine uH ?_
 refine callF uTS (gp) uTS uTS uTS ?_;refine uS ?_
 refine uH ?_
 refine hK _ ?_;clear hK K
 repeat first|refine uC ?_|refine uA1 (uI @e1 (uI @e2 (uI @e3 (uI @e4 (uI @e5 (uI @e6 (uI @e7 (uI @e8 (uI @e9 (uI @e10 (uI @e11 (uI @e12 (uI @e13 @hc))))))))))))) ?_
 refine uR1 @str_mk ?_;intro K hK
 refine uH ?_
 refine callF uTS (d1) uTS uTS uTS ?_;refine uS ?_
 try refine uS1 @str_mk ?_
 refine uH ?_
 refine hK _ ?_;clear hK K
 refine awp_ret ?_;rw[show Tryz.f13.results.toList=[.tmp 2, .tmp 3] from rfl];first|refine uRN ?_|exact uRM
 try first|rfl|simp[sVerdict,sClear,sAlarm]
theorem rline_1t (x:Acx) (hx:SmA x) (hp:plainA x=true) (hk:x.k=1) (hc:x.lost=true):SatG Tryz.prog tab 13 [] [x.av] [] (.tup [S (strOf (rlineB x)),I 0]):=by
 have g0:=plain_sat x hx
 rw[hp] at g0
 obtain⟨hk14,ho,hb⟩:=plainA_of hp
 have gp:=rpformat_sat x.plt
 obtain⟨lp,lf,lr,ln,li,ld,lc,la,lx,ht,lk,lm,lg,hm,hg⟩:=lnB hx
 have e1:=uDt (x.k=1)
 have e2:=uDf (x.k=2)
 have e3:=uDf (x.k=3)
 have e4:=uDf (x.k=4)
 have e5:=uDf (x.k=5)
 have e6:=uDf (x.k=6)
 have e7:=uDf (x.k=7)
 have e8:=uDf (x.k=8)
 have e9:=uDf (x.k=9)
 have e10:=uDf (x.k=10)
 have e11:=uDf (x.k=11)
 have e12:=uDf (x.k=12)
 have e13:=uDf (x.k=13)
 obtain⟨b1,b2⟩:=bodyB_1 hb hk
 have d1:=rsome_sat x.mv hx.mv fun f hf=>by obtain⟨q1,q2,q3,q4⟩:=flawB_of (b1 f hf);exact⟨⟨q1,by omega⟩,q3,q4⟩
 have d2:=rsome_sat x.gl hx.gl fun f hf=>by obtain⟨q1,q2,q3,q4⟩:=flawB_of (b2 f hf);exact⟨⟨by omega,q2⟩,q3,q4⟩
 have hT:rlineB x=sTick++((32::sLost)++(someB x.mv++someB x.gl)):=by unfold rlineB;rw[if_pos hk,hc];rfl
 rw[hT]
 refine uFN Tryz.func13 Tryz.ntmps13 ?_;intro w e X hC
 repeat refine uA ?_
 refine uR ?_;intro K hK
 refine uH ?_
 refine callF uTS (g0) uTS uTS uTS ?_;refine uS ?_
 refine uH ?_
 refine hK _ ?_;clear hK K
 refine uF ?_
 refine uR ?_;intro K hK
 refine uH ?_
 refine callF uTS (gp) uTS uTS uTS ?_;refine uS ?_
 refine uH ?_
 refine hK _ ?_;clear hK K
 repeat first|refine uC ?_|refine uA1 (uI @e1 (uI @e2 (uI @e3 (uI @e4 (uI @e5 (uI @e6 (uI @e7 (uI @e8 (uI @e9 (uI @e10 (uI @e11 (uI @e12 (uI @e13 @hc))))))))))))) ?_
 refine uD1 @str_mk ?_;intro K hK
 refine uH ?_
 refine callF uTS (d1) uTS uTS uTS ?_;refine uS ?_
 try refine uS1 @str_mk ?_
 refine uH ?_
 refine callF uTS (d2) uTS uTS uTS ?_;refine uS ?_
 try refine uS1 @str_mk ?_
 refine uH ?_
 refine hK _ ?_;clear hK K
 refine awp_ret ?_;rw[show Tryz.f13.results.toList=[.tmp 2, .tmp 3] from rfl];first|refine uRN ?_|exact uRM
 try first|rfl|simp[sTick,sLost]
theorem rline_1f (x:Acx) (hx:SmA x) (hp:plainA x=true) (hk:x.k=1) (hc:x.lost=false):SatG Tryz.prog tab 13 [] [x.av] [] (.tup [S (strOf (rlineB x)),I 0]):=by
 have g0:=plain_sat x hx
 rw[hp] at g0
 obtain⟨hk14,ho,hb⟩:=plainA_of hp
 have gp:=rpformat_sat x.plt
 obtain⟨lp,lf,lr,ln,li,ld,lc,la,lx,ht,lk,lm,lg,hm,hg⟩:=lnB hx
 have e1:=uDt (x.k=1)
 have e2:=uDf (x.k=2)
 have e3:=uDf (x.k=3)
 have e4:=uDf (x.k=4)
 have e5:=uDf (x.k=5)
 have e6:=uDf (x.k=6)
 have e7:=uDf (x.k=7)
 have e8:=uDf (x.k=8)
 have e9:=uDf (x.k=9)
 have e10:=uDf (x.k=10)
 have e11:=uDf (x.k=11)
 have e12:=uDf (x.k=12)
 have e13:=uDf (x.k=13)
 obtain⟨b1,b2⟩:=bodyB_1 hb hk
 have d1:=rsome_sat x.mv hx.mv fun f hf=>by obtain⟨q1,q2,q3,q4⟩:=flawB_of (b1 f hf);exact⟨⟨q1,by omega⟩,q3,q4⟩
 have d2:=rsome_sat x.gl hx.gl fun f hf=>by obtain⟨q1,q2,q3,q4⟩:=flawB_of (b2 f hf);exact⟨⟨by omega,q2⟩,q3,q4⟩
 have hT:rlineB x=sTick++([]++(someB x.mv++someB x.gl)):=by unfold rlineB;rw[if_pos hk,hc];rfl
 rw[hT]
 refine uFN Tryz.func13 Tryz.ntmps13 ?_;intro w e X hC
 repeat refine uA ?_
 refine uR ?_;intro K hK
 refine uH ?_
 refine callF uTS (g0) uTS uTS uTS ?_;refine uS ?_
 refine uH ?_
 refine hK _ ?_;clear hK K
 refine uF ?_
 refine uR ?_;intro K hK
 refine uH ?_
 refine callF uTS (gp) uTS uTS uTS ?_;refine uS ?_
 refine uH ?_
 refine hK _ ?_;clear hK K
 repeat first|refine uC ?_|refine uA1 (uI @e1 (uI @e2 (uI @e3 (uI @e4 (uI @e5 (uI @e6 (uI @e7 (uI @e8 (uI @e9 (uI @e10 (uI @e11 (uI @e12 (uI @e13 @hc))))))))))))) ?_
 refine uD1 @str_mk ?_;intro K hK
 refine uH ?_
 refine callF uTS (d1) uTS uTS uTS ?_;refine uS ?_
 try refine uS1 @str_mk ?_
 refine uH ?_
 refine callF uTS (d2) uTS uTS uTS ?_;refine uS ?_
 try refine uS1 @str_mk ?_
 refine uH ?_
 refine hK _ ?_;clear hK K
 refine awp_ret ?_;rw[show Tryz.f13.results.toList=[.tmp 2, .tmp 3] from rfl];first|refine uRN ?_|exact uRM
 try first|rfl|simp[sTick,sLost]
theorem revL_at {k:Int} (h:1<=k/\k<=5):([revN 1,revN 2,revN 3,revN 4,revN 5]:List Bs).getD (k - 1).toNat []=revN k:=by
 have:k=1\/k=2\/k=3\/k=4\/k=5:=by omega
 rcases this with rfl|rfl|rfl|rfl|rfl<;>rfl
theorem rline_5t (x:Acx) (hx:SmA x) (hp:plainA x=true) (hk:x.k=5) (hc:x.rev.k<=3):SatG Tryz.prog tab 13 [] [x.av] [] (.tup [S (strOf (rlineB x)),I 0]):=by
 have g0:=plain_sat x hx
 rw[hp] at g0
 obtain⟨hk14,ho,hb⟩:=plainA_of hp
 have gp:=rpformat_sat x.plt
 obtain⟨lp,lf,lr,ln,li,ld,lc,la,lx,ht,lk,lm,lg,hm,hg⟩:=lnB hx
 have e1:=uDf (x.k=1)
 have e2:=uDf (x.k=2)
 have e3:=uDf (x.k=3)
 have e4:=uDf (x.k=4)
 have e5:=uDt (x.k=5)
 have e6:=uDf (x.k=6)
 have e7:=uDf (x.k=7)
 have e8:=uDf (x.k=8)
 have e9:=uDf (x.k=9)
 have e10:=uDf (x.k=10)
 have e11:=uDf (x.k=11)
 have e12:=uDf (x.k=12)
 have e13:=uDf (x.k=13)
 obtain⟨b1,b2,b3⟩:=bodyB_5 hb hk
 have d1:=rfformat_sat x.rev.flt hx.rc hx.rs
 have d2:=rdec_sat _ b3
 have hT:rlineB x=revN x.rev.k++32::(x.rev.flt.fmt++(32::decW x.rev.amt)):=by unfold rlineB;rw[if_neg (by omega:¬x.k=1),if_neg (by omega:¬x.k=2),if_neg (by omega:¬x.k=3),if_neg (by omega:¬x.k=4),if_pos hk,if_pos hc]
 rw[hT]
 have r1:=revL_at b1
 have r2:([S (strOf [100,101,108,97,121]),S (strOf [111,112,101,110,115]),S (strOf [115,116,97,110,100]),S (strOf [99,97,110,99,101,108]),S (strOf [114,101,115,116,111,114,101])]:List AV).getD (x.rev.k - 1).toNat .bad=S (strOf (revN x.rev.k)):=by
  have:=strs_getD (l:=[revN 1,revN 2,revN 3,revN 4,revN 5]) (i:=(x.rev.k - 1).toNat) (by show _<5;omega)
  rw[r1] at this
  exact this
 have e14:decide (x.rev.k<=3)=true:=decide_eq_true hc
 refine uFN Tryz.func13 Tryz.ntmps13 ?_;intro w e X hC
 repeat refine uA ?_
 refine uR ?_;intro K hK
 refine uH ?_
 refine callF uTS (g0) uTS uTS uTS ?_;refine uS ?_
 refine uH ?_
 refine hK _ ?_;clear hK K
 refine uF ?_
 refine uR ?_;intro K hK
 refine uH ?_
 refine callF uTS (gp) uTS uTS uTS ?_;refine uS ?_
 refine uH ?_
 refine hK _ ?_;clear hK K
 repeat first|refine uC ?_|refine uA1 (uI @e1 (uI @e2 (uI @e3 (uI @e4 (uI @e5 (uI @e6 (uI @e7 (uI @e8 (uI @e9 (uI @e10 (uI @e11 (uI @e12 @e13)))))))))))) ?_
 refine uD1 (uI @r2 @str_mk) ?_;intro K hK
 refine uH ?_
 refine callF uTS (d1) uTS uTS uTS ?_;refine uS ?_
 try refine uS1 @str_mk ?_
 refine uH ?_
 refine hK _ ?_;clear hK K
 refine uA ?_
 rw[e14]
 refine uT ?_
 refine uR1 @str_mk ?_;intro K hK
 refine uH ?_
 refine callF uTS (d2) uTS uTS uTS ?_;refine uS ?_
 try refine uS1 @str_mk ?_
 refine uH ?_
 refine hK _ ?_;clear hK K
 repeat refine uA ?_
 refine awp_ret ?_;rw[show Tryz.f13.results.toList=[.tmp 2, .tmp 3] from rfl];first|refine uRN ?_|exact uRM
 try first|rfl|simp
theorem rline_5f (x:Acx) (hx:SmA x) (hp:plainA x=true) (hk:x.k=5) (hc:¬x.rev.k<=3):SatG Tryz.prog tab 13 [] [x.av] [] (.tup [S (strOf (rlineB x)),I 0]):=by
 have g0:=plain_sat x hx
 rw[hp] at g0
 obtain⟨hk14,ho,hb⟩:=plainA_of hp
 have gp:=rpformat_sat x.plt
 obtain⟨lp,lf,lr,ln,li,ld,lc,la,lx,ht,lk,lm,lg,hm,hg⟩:=lnB hx
 have e1:=uDf (x.k=1)
 have e2:=uDf (x.k=2)
 have e3:=uDf (x.k=3)
 have e4:=uDf (x.k=4)
 have e5:=uDt (x.k=5)
 have e6:=uDf (x.k=6)
 have e7:=uDf (x.k=7)
 have e8:=uDf (x.k=8)
 have e9:=uDf (x.k=9)
 have e10:=uDf (x.k=10)
 have e11:=uDf (x.k=11)
 have e12:=uDf (x.k=12)
 have e13:=uDf (x.k=13)
 obtain⟨b1,b2,b3⟩:=bodyB_5 hb hk
 have d1:=rfformat_sat x.rev.flt hx.rc hx.rs
 have d2:=rdec_sat _ b3
 have hT:rlineB x=revN x.rev.k++32::(x.rev.flt.fmt++([])):=by unfold rlineB;rw[if_neg (by omega:¬x.k=1),if_neg (by omega:¬x.k=2),if_neg (by omega:¬x.k=3),if_neg (by omega:¬x.k=4),if_pos hk,if_neg hc]
 rw[hT]
 have r1:=revL_at b1
 have r2:([S (strOf [100,101,108,97,121]),S (strOf [111,112,101,110,115]),S (strOf [115,116,97,110,100]),S (strOf [99,97,110,99,101,108]),S (strOf [114,101,115,116,111,114,101])]:List AV).getD (x.rev.k - 1).toNat .bad=S (strOf (revN x.rev.k)):=by
  have:=strs_getD (l:=[revN 1,revN 2,revN 3,revN 4,revN 5]) (i:=(x.rev.k - 1).toNat) (by show _<5;omega)
  rw[r1] at this
  exact this
 have e14:decide (x.rev.k<=3)=false:=decide_eq_false hc
 refine uFN Tryz.func13 Tryz.ntmps13 ?_;intro w e X hC
 repeat refine uA ?_
 refine uR ?_;intro K hK
 refine uH ?_
 refine callF uTS (g0) uTS uTS uTS ?_;refine uS ?_
 refine uH ?_
 refine hK _ ?_;clear hK K
 refine uF ?_
 refine uR ?_;intro K hK
 refine uH ?_
 refine callF uTS (gp) uTS uTS uTS ?_;refine uS ?_
 refine uH ?_
 refine hK _ ?_;clear hK K
 repeat first|refine uC ?_|refine uA1 (uI @e1 (uI @e2 (uI @e3 (uI @e4 (uI @e5 (uI @e6 (uI @e7 (uI @e8 (uI @e9 (uI @e10 (uI @e11 (uI @e12 @e13)))))))))))) ?_
 refine uD1 (uI @r2 @str_mk) ?_;intro K hK
 refine uH ?_
 refine callF uTS (d1) uTS uTS uTS ?_;refine uS ?_
 try refine uS1 @str_mk ?_
 refine uH ?_
 refine hK _ ?_;clear hK K
 refine uA ?_
 rw[e14]
 refine uF ?_
 repeat refine uA ?_
 refine awp_ret ?_;rw[show Tryz.f13.results.toList=[.tmp 2, .tmp 3] from rfl];first|refine uRN ?_|exact uRM
 try first|rfl|simp
theorem rline_sat (x:Acx) (hx:SmA x):SatG Tryz.prog tab 13 [] [x.av] [] (lineV (lineS x)):=by
 cases hp:plainA x with
 |false=>
  rw[rline_no hp]
  exact rline_bad x hx hp
 |true=>
  rw[rline_eq hp]
  show SatG Tryz.prog tab 13 [] [x.av] [] (.tup [S (strOf (rlineB x)),I 0])
  obtain⟨hk,-,-⟩:=plainA_of hp
  by_cases k1:x.k=1
  ·cases hc:x.lost with
   |true=>exact rline_1t x hx hp k1 hc
   |false=>exact rline_1f x hx hp k1 hc
  by_cases k4:x.k=4
  ·cases hc:x.clr with
   |true=>exact rline_4t x hx hp k4 hc
   |false=>exact rline_4f x hx hp k4 hc
  by_cases k5:x.k=5
  ·by_cases hc:x.rev.k<=3
   ·exact rline_5t x hx hp k5 hc
   ·exact rline_5f x hx hp k5 hc
  by_cases k2:x.k=2
  ·exact rline_2 x hx hp k2
  by_cases k3:x.k=3
  ·exact rline_3 x hx hp k3
  by_cases k6:x.k=6
  ·exact rline_6 x hx hp k6
  by_cases k7:x.k=7
  ·exact rline_7 x hx hp k7
  by_cases k8:x.k=8
  ·exact rline_8 x hx hp k8
  by_cases k9:x.k=9
  ·exact rline_9 x hx hp k9
  by_cases k10:x.k=10
  ·exact rline_10 x hx hp k10
  by_cases k11:x.k=11
  ·exact rline_11 x hx hp k11
  by_cases k12:x.k=12
  ·exact rline_12 x hx hp k12
  by_cases k13:x.k=13
  ·exact rline_13 x hx hp k13
  exact rline_14 x hx hp (by omega)
open Go.Scr
theorem gTick_sm {ws:List Bs} (h:ws.length<=1000):SmA (gTick ws):=by
 have f1:∀l:List Bs,(lowF (l.map rfault)).length<=l.length:=fun l=>by
  have:=List.length_filter_le (fun f:Flaw=>decide (f.k<=2)) (l.map rfault)
  rw[List.length_map] at this
  exact this
 have f2:∀l:List Bs,(highF (l.map rfault)).length<=l.length:=fun l=>by
  have:=List.length_filter_le (fun f:Flaw=>!decide (f.k<=2)) (l.map rfault)
  rw[List.length_map] at this
  exact this
 have ht:ws.tail.length<=1000:=by rw[List.length_tail];omega
 unfold gTick
 split
 ·exact⟨Nat.le_trans (f1 _) ht,Nat.le_trans (f2 _) ht,Nat.zero_le _,Nat.zero_le _,Nat.zero_le _,Nat.zero_le _,Nat.zero_le _⟩
 ·exact⟨Nat.le_trans (f1 _) h,Nat.le_trans (f2 _) h,Nat.zero_le _,Nat.zero_le _,Nat.zero_le _,Nat.zero_le _,Nat.zero_le _⟩
theorem guess_sm {s:Bs} (hs:s.length<=900000) (hc:s.count 32<=999):SmA (guessS s):=by
 have z:∀{k:Int} {p:Plt} {a b c d:Int} {e:Bool},SmA {A0 k with plt:=p,node:=a,img:=b,dev:=c,con:=d,clr:=e}:=⟨Nat.zero_le _,Nat.zero_le _,Nat.zero_le _,Nat.zero_le _,Nat.zero_le _,Nat.zero_le _,Nat.zero_le _⟩
 have hl:(splitL 32 s).length<=1000:=by rw[splitL_length];omega
 have fr:∀(k a:Int) (t:Bs),SmA {A0 5 with rev:=⟨k,a,(fltParse t).1⟩}:=fun k a t=>by
  have:=fltParse_len t
  exact⟨Nat.zero_le _,Nat.zero_le _,Nat.zero_le _,Nat.le_trans this.1 (by decide),Nat.le_trans this.2 (by decide),Nat.zero_le _,Nat.zero_le _⟩
 have ff:∀(t:Bs),SmA {A0 13 with flt:=(fltParse t).1}:=fun t=>by
  have:=fltParse_len t
  exact⟨Nat.zero_le _,Nat.zero_le _,Nat.zero_le _,Nat.zero_le _,Nat.zero_le _,Nat.le_trans this.1 (by decide),Nat.le_trans this.2 (by decide)⟩
 have ft:SmA {A0 3 with txt:=swapB 124 10 (s.drop (min s.length 8))}:=⟨Nat.zero_le _,Nat.zero_le _,by show(swapB 124 10 (s.drop (min s.length 8))).length<=_;rw[swapB_length,List.length_drop];omega,Nat.zero_le _,Nat.zero_le _,Nat.zero_le _,Nat.zero_le _⟩
 unfold guessS guessW
 split
 ·exact gTick_sm (by rw[List.length_drop];omega)
 ·exact z
 ·exact ft
 ·exact z
 ·exact fr _ _ _
 ·exact fr _ _ _
 ·exact fr _ _ _
 ·exact fr _ _ _
 ·exact fr _ _ _
 ·exact z
 ·exact z
 ·exact z
 ·exact z
 ·exact z
 ·exact z
 ·exact z
 ·exact ff _
 ·exact z
 ·exact z
theorem rparseline_sat (s:Bs) (hs:s.length<=900000) (hc:s.count 32<=999):SatG Tryz.prog tab 17 [] [S (strOf s)] [] (parseV (parseS s)):=by
 have g1:=rguess_sat s hs
 have g2:=rline_sat _ (guess_sm hs hc)
 have hp:=rparse_eq s
 unfold rparseS at hp
 rw[<-hp]
 clear hp
 generalize guessS s=x at*
 refine uFN Tryz.func17 Tryz.ntmps17 ?_;intro w e X hC
 repeat refine uA ?_
 cases hl:lineS x with
 |none=>
  rw[hl] at g2
  replace g2:SatG Tryz.prog tab 13 [] [x.av] [] (.tup [S (strOf []),I 3]):=g2
  rw[if_neg (by simp)]
  refine uR ?_;intro K hK
  refine uH ?_
  refine callP uTS (g1) uTS uTS uTS ?_;refine uS ?_
  refine uH ?_
  refine hK _ ?_;clear hK K
  refine uR ?_;intro K hK
  refine uH ?_
  refine callF uTS (g2) uTS uTS uTS ?_;refine uS ?_
  refine uH ?_
  refine hK _ ?_;clear hK K
  repeat refine uA ?_
  refine uT ?_
  repeat refine uA ?_
  refine awp_ret ?_;rw[show Tryz.f17.results.toList=[.cell 2 30, .tmp 3] from rfl];first|refine uRN ?_|exact uRM
  try rfl
 |some t=>
  rw[hl] at g2
  replace g2:SatG Tryz.prog tab 13 [] [x.av] [] (.tup [S (strOf t),I 0]):=g2
  by_cases ht:t=s
  ·subst ht
   rw[if_pos rfl]
   refine uR ?_;intro K hK
   refine uH ?_
   refine callP uTS (g1) uTS uTS uTS ?_;refine uS ?_
   refine uH ?_
   refine hK _ ?_;clear hK K
   refine uR ?_;intro K hK
   refine uH ?_
   refine callF uTS (g2) uTS uTS uTS ?_;refine uS ?_
   refine uH ?_
   refine hK _ ?_;clear hK K
   repeat refine uA ?_
   refine uF ?_
   repeat refine uA ?_
   refine awp_ret ?_;rw[show Tryz.f17.results.toList=[.cell 2 30, .tmp 3] from rfl];first|refine uRN ?_|exact uRM
   try rfl
  ·have e1:(decide ¬t=s)=true:=decide_eq_true ht
   rw[if_neg (fun h=>ht (Option.some.inj h))]
   refine uR ?_;intro K hK
   refine uH ?_
   refine callP uTS (g1) uTS uTS uTS ?_;refine uS ?_
   refine uH ?_
   refine hK _ ?_;clear hK K
   refine uR ?_;intro K hK
   refine uH ?_
   refine callF uTS (g2) uTS uTS uTS ?_;refine uS ?_
   refine uH ?_
   refine hK _ ?_;clear hK K
   repeat refine uA1 @e1 ?_
   refine uT ?_
   repeat refine uA ?_
   refine awp_ret ?_;rw[show Tryz.f17.results.toList=[.cell 2 30, .tmp 3] from rfl];first|refine uRN ?_|exact uRM
   try rfl
theorem rformat_sat (l:List Acx) (hl:l.length<=1000000) (hs:∀x∈l,SmA x):SatG Tryz.prog tab 22 [] [.sl (acts l) false] [] (.tup [S (strOf (formatS l).1),I (formatS l).2]):=by
 refine uFN Tryz.func22 Tryz.ntmps22 ?_;intro w e X hC
 repeat refine uA ?_
 refine uW ?_;refine condP _ rfl (fun c0=>?_) (fun c0=>?_)
 ·have e:formatS l=([],2):=by unfold formatS;rw[if_pos (by omega)]
  rw[e]
  repeat refine uA ?_
  refine awp_ret ?_;rw[show Tryz.f22.results.toList=[.tmp 2, .tmp 3] from rfl];first|refine uRN ?_|exact uRM
  rfl
 have e0:formatS l=match fmtL l with
  |none=>([],3)
  |some t=>if 65536<t.length then([],2) else(t,0):=by unfold formatS;rw[if_neg (by omega)];cases fmtL l<;>rfl
 repeat refine uA ?_
 refine uW ?_
 refine awp_loopW (fun i:Nat×Nat×Bs=>⟨[(0, .sl (acts l) false),(4,S (strOf i.2.2)),(5,I i.2.1)],[],i.1⟩) (fun i=>i.2.1<=l.length/\i.2.2.length<=i.2.1*2008002009/\fmtL l=(fmtL (l.drop i.2.1)).map (fun b=>i.2.2++b)) (fun i=>l.length - i.2.1) (_,0,[]) ⟨Nat.zero_le _,Nat.zero_le _,by simp⟩ (uKF) ?_
 rintro⟨ck,i,acc⟩ ⟨hi,ha,hf⟩
 simp only at hi ha hf
 have hal:acc.length<=500*2008002009:=Nat.le_trans ha (Nat.mul_le_mul_right _ (by omega))
 refine uA ?_
 refine uW ?_;refine condP _ rfl (fun h=>?_) (fun h=>?_)
 ·have hlt:i<l.length:=by omega
  have hst:=fmtL_step hlt hf
  have hm:l.getD i default∈l:=by rw[List.getD_eq_getElem?_getD,List.getElem?_eq_getElem hlt];exact List.getElem_mem hlt
  have hx:=hs _ hm
  have h1:=rline_sat _ hx
  have hll:=fun t=>lineS_len hx (t:=t)
  have hag:=acts_getD hlt
  generalize l.getD i default=x at*
  cases hln:lineS x with
  |none=>
   rw[hln] at h1 hst
   replace h1:SatG Tryz.prog tab 13 [] [x.av] [] (.tup [S (strOf []),I 3]):=h1
   replace hst:fmtL l=none:=hst
   rw[e0,hst]
   refine uR1 @hag ?_;intro K hK
   refine uH ?_
   refine callF uTS (h1) uTS uTS uTS ?_;refine uS ?_
   refine uH ?_
   refine hK _ ?_;clear hK K
   repeat refine uA ?_
   refine uT ?_
   repeat refine uA ?_
   refine awp_ret ?_;rw[show Tryz.f22.results.toList=[.tmp 2, .tmp 3] from rfl];first|refine uRN ?_|exact uRM
   rfl
  |some t=>
   rw[hln] at h1 hst
   replace h1:SatG Tryz.prog tab 13 [] [x.av] [] (.tup [S (strOf t),I 0]):=h1
   have htl:=hll t hln
   have hass:acc++t++[10]=acc++(t++[10]):=List.append_assoc _ _ _
   refine uR1 @hag ?_;intro K hK
   refine uH ?_
   refine callF uTS (h1) uTS uTS uTS ?_;refine uS ?_
   refine uH ?_
   refine hK _ ?_;clear hK K
   repeat refine uA ?_
   refine uF ?_
   repeat refine uA1 (uI @str_mk @hass) ?_
   refine⟨(_,i+1,acc++(t++[10])),⟨by simp only;omega,by simp only[List.length_append,List.length_singleton];omega,hst⟩,by simp only;omega,uKF⟩
 ·refine awp_exit ?_
  have:i=l.length:=by omega
  subst this
  rw[List.drop_length] at hf
  replace hf:fmtL l=some acc:=by rw[hf];simp[fmtL]
  rw[e0,hf]
  refine uA ?_
  refine uW ?_;refine condP _ rfl (fun c1=>?_) (fun c1=>?_)
  ·have c1:65536<acc.length:=by omega
   simp only[if_pos c1]
   repeat refine uA ?_
   refine awp_ret ?_;rw[show Tryz.f22.results.toList=[.tmp 2, .tmp 3] from rfl];first|refine uRN ?_|exact uRM
   rfl
  ·have c1:¬65536<acc.length:=by omega
   simp only[if_neg c1]
   repeat refine uA ?_
   refine awp_ret ?_;rw[show Tryz.f22.results.toList=[.tmp 2, .tmp 3] from rfl];first|refine uRN ?_|exact uRM
theorem rparse_sat (s:Bs) (hl:s.length<=900000) (hc:s.count 32<=999):SatG Tryz.prog tab 25 [] [S (strOf s)] [] (.tup [.sl (acts (parseTS s).1) false,I (parseTS s).2.1,I (parseTS s).2.2]):=by
 have g1:=rsplit_sat s 10 (by omega)
 refine uFN Tryz.func25 Tryz.ntmps25 ?_;intro w e X hC
 repeat refine uA ?_
 refine uW ?_;refine condP _ rfl (fun c0=>?_) (fun c0=>?_)
 ·have e:parseTS s=([],0,2):=by unfold parseTS;rw[if_pos (by omega)]
  rw[e]
  repeat refine uA ?_
  refine awp_ret ?_;rw[show Tryz.f25.results.toList=[.tmp 2, .tmp 3, .tmp 4] from rfl];first|refine uRN ?_|exact uRM
  rfl
 have e0:parseTS s=parseR s.length [] s:=by unfold parseTS;rw[if_neg (by omega)]
 rw[e0]
 generalize hT:parseR s.length [] s=T
 have hwl:=splitL_length 10 s
 have hcl:s.count 10<=s.length:=List.count_le_length
 repeat refine uA ?_
 refine uR ?_;intro K hK
 refine uH ?_
 refine callP uTS (g1) uTS uTS uTS ?_;refine uS ?_
 refine uH ?_
 refine hK _ ?_;clear hK K
 repeat refine uA ?_
 have hsp:(splitL 10 s).drop 0=splitL 10 s:=rfl
 generalize hW:splitL 10 s=wl at*
 refine uW ?_
 refine awp_loopW (fun i:Nat×Nat×List Acx×Bs=>⟨[(2, .slO 102 1 0 0),(3,I 0),(4,I 0),(5, .slO 105 7 0 i.2.2.1.length),(6, .sl (strs wl) false),(7,I i.2.2.1.length)],[(105,some (7, .own 30 23 (acts i.2.2.1))),(102,some (1, .own 30 23 []))],i.1⟩)
  (fun i=>i.2.2.2.length<=i.2.1/\i.2.2.2.length<=s.length/\i.2.2.2.count 32<=999/\i.2.2.1.length<=500/\parseR i.2.1 i.2.2.1 i.2.2.2=T/\wl.drop i.2.2.1.length=splitL 10 i.2.2.2) (fun i=>i.2.2.2.length) (_,s.length,[],s) ⟨Nat.le_refl _,Nat.le_refl _,hc,Nat.zero_le _,hT,by rw[hW];exact hsp⟩ (uKF) ?_
 rintro⟨ck,n,out,t⟩ ⟨h1,h2,h3,h4,h5,h6⟩
 simp only at h1 h2 h3 h4 h5 h6
 have hlt:out.length<wl.length:=by
  by_cases hh:out.length<wl.length
  ·exact hh
  ·rw[List.drop_of_length_le (by omega)] at h6
   exact absurd h6.symm (splitL_ne 10 t)
 refine uA ?_
 refine uW ?_;refine condP _ rfl (fun h=>?_) (fun h=>?_)
 ·have hdr:=drop_getD hlt
  have hwi:(strs wl).getD out.length .bad=S (strOf (wl.getD out.length [])):=strs_getD hlt
  have hwn:wl.length<=900001:=by omega
  have hn:out.length+(wl.drop (out.length+1)).length+1=wl.length:=by rw[List.length_drop];omega
  rcases firstOf 10 t with hf|⟨a,b,rfl,hf⟩
  ·rw[splitL_word hf,hdr] at h6
   obtain⟨hx,hd⟩:=List.cons.inj h6
   rw[hd,List.length_nil] at hn
   rw[hx] at hwi
   have e1:=uDt ((out.length:Int)=(wl.length:Int) - 1)
   by_cases ht:t=[]
   ·subst ht
    have h7:T=(out,0,0):=by rw[<-h5];cases n<;>simp[parseR]
    rw[h7]
    refine uA1 (uI @e1 @hwi) ?_
    refine uT ?_
    refine awp_exit ?_
    repeat refine uA ?_
    refine awp_ret ?_;rw[show Tryz.f25.results.toList=[.tmp 2, .tmp 3, .tmp 4] from rfl];first|refine uRN ?_|exact uRM
   ·obtain⟨n,rfl⟩:∃k,n=k+1:=⟨n - 1,by have:=List.length_pos_iff.2 ht;omega⟩
    have e2:decide (t=[])=false:=decide_eq_false ht
    rw[parseR,if_neg ht,cut_not hf] at h5
    have k2:=rparseline_sat t (by omega) h3
    refine uA1 (uI @e1 (uI @hwi @e2)) ?_
    refine uF ?_
    refine uA ?_
    refine uW ?_;refine condP _ rfl (fun c5=>?_) (fun c5=>?_)
    ·rw[if_pos (by omega)] at h5
     rw[<-h5]
     repeat refine uA ?_
     refine awp_ret ?_;rw[show Tryz.f25.results.toList=[.tmp 2, .tmp 3, .tmp 4] from rfl];first|refine uRN ?_|exact uRM
     try rfl
    ·rw[if_neg (by omega)] at h5
     cases hp:parseS t with
     |none=>
      rw[hp] at k2 h5
      replace k2:SatG Tryz.prog tab 17 [] [S (strOf t)] [] (.tup [(A0 0).av,I 3]):=k2
      simp only at h5
      rw[<-h5]
      refine uR1 @hwi ?_;intro K hK
      refine uH ?_
      refine callP uTS (k2) uTS uTS uTS ?_;refine uS ?_
      refine uH ?_
      refine hK _ ?_;clear hK K
      repeat refine uA1 @e1 ?_
      refine uT ?_
      repeat refine uA ?_
      refine awp_ret ?_;rw[show Tryz.f25.results.toList=[.tmp 2, .tmp 3, .tmp 4] from rfl];first|refine uRN ?_|exact uRM
      try rfl
     |some x=>
      rw[hp] at k2 h5
      replace k2:SatG Tryz.prog tab 17 [] [S (strOf t)] [] (.tup [x.av,I 0]):=k2
      simp only at h5
      rw[if_neg (by decide)] at h5
      rw[<-h5]
      refine uR1 @hwi ?_;intro K hK
      refine uH ?_
      refine callP uTS (k2) uTS uTS uTS ?_;refine uS ?_
      refine uH ?_
      refine hK _ ?_;clear hK K
      repeat refine uA1 @e1 ?_
      refine uT ?_
      repeat refine uA ?_
      refine awp_ret ?_;rw[show Tryz.f25.results.toList=[.tmp 2, .tmp 3, .tmp 4] from rfl];first|refine uRN ?_|exact uRM
      try rfl
  ·rw[splitL_cons hf,hdr] at h6
   obtain⟨hx,hd⟩:=List.cons.inj h6
   have hbl:=List.length_pos_iff.2 (splitL_ne 10 b)
   rw[hd] at hn
   rw[hx] at hwi
   simp only[List.length_append,List.length_cons,List.count_append] at h1 h2 h3
   rw[List.count_cons] at h3
   have e1:=uDf ((out.length:Int)=(wl.length:Int) - 1)
   obtain⟨n,rfl⟩:∃k,n=k+1:=⟨n - 1,by omega⟩
   rw[parseR,if_neg (by simp),cut_at hf] at h5
   have k2:=rparseline_sat a (by omega) (by omega)
   refine uA1 (uI @e1 @hwi) ?_
   refine uF ?_
   refine uA ?_
   refine uW ?_;refine condP _ rfl (fun c5=>?_) (fun c5=>?_)
   ·rw[if_pos (by omega)] at h5
    rw[<-h5]
    repeat refine uA ?_
    refine awp_ret ?_;rw[show Tryz.f25.results.toList=[.tmp 2, .tmp 3, .tmp 4] from rfl];first|refine uRN ?_|exact uRM
    try rfl
   ·rw[if_neg (by omega)] at h5
    cases hp:parseS a with
    |none=>
     rw[hp] at k2 h5
     replace k2:SatG Tryz.prog tab 17 [] [S (strOf a)] [] (.tup [(A0 0).av,I 3]):=k2
     simp only at h5
     rw[<-h5]
     refine uR1 @hwi ?_;intro K hK
     refine uH ?_
     refine callP uTS (k2) uTS uTS uTS ?_;refine uS ?_
     refine uH ?_
     refine hK _ ?_;clear hK K
     repeat refine uA1 @e1 ?_
     refine uT ?_
     repeat refine uA ?_
     refine awp_ret ?_;rw[show Tryz.f25.results.toList=[.tmp 2, .tmp 3, .tmp 4] from rfl];first|refine uRN ?_|exact uRM
     try rfl
    |some x=>
     rw[hp] at k2 h5
     replace k2:SatG Tryz.prog tab 17 [] [S (strOf a)] [] (.tup [x.av,I 0]):=k2
     simp only at h5
     rw[if_pos trivial] at h5
     refine uR1 @hwi ?_;intro K hK
     refine uH ?_
     refine callP uTS (k2) uTS uTS uTS ?_;refine uS ?_
     refine uH ?_
     refine hK _ ?_;clear hK K
     repeat refine uA1 @e1 ?_
     refine uF ?_
     have hsn:acts out++[x.av]=acts (out++[x]):=acts_snoc
     have hln:(out++[x]).length=out.length+1:=by simp
     repeat refine uA1 @hsn ?_
     refine⟨(_,n,out++[x],b),⟨by simp only;omega,by simp only;omega,by simp only;omega,by simp only[List.length_append,List.length_singleton];omega,h5,by simp only;rw[hln];exact hd⟩,by simp only[List.length_append,List.length_cons];omega, .of (Nat.le_refl _) (uHF1 (uI @hsn @hln)) (uWF1 @hln)⟩
 ·exact absurd (by omega) h
end Go.Proofs.YtokkbonoplbiaaaGreatDoor
namespace Go.Sym
open Go Go.Deep Go.ChangeShapes Go.WideShapes Go.ChangeAt Go.RowKit
inductive All2 {α β:Type} (r:α->β->Prop):List α->List β->Prop
 |nil:All2 r [] []
 |cons {a:α} {b:β} {l:List α} {m:List β}:r a b->All2 r l m->All2 r (a::l) (b::m)
def RsApp:List (List AV->Prop)->List AV->Prop
 |[],avs=>avs=[]
 |R::Rs,avs=>∃a b,R a/\RsApp Rs b/\avs=a++b
section
variable {H:Type} {enc:TypeId×Value->H} {P:Program} {W:World} {U:Nat->Prop}
structure CV (W:World) (U:Nat->Prop) (avs:List AV) (cs:List Value):Prop where
 len:avs.length=cs.length
 at_:∀j,j<avs.length->(avs.getD j .bad).one=true/\VD W U (avs.getD j .bad) (cs.getD j undef)
def Rds (enc:TypeId×Value->H) (P:Program) (W:World) (U:Nat->Prop) (t:TypeId) (R:List AV->Prop):Prop:=
 ∀fuel cs x,DataW.trod enc P W 0 (fun _=>true) true fuel t cs=some x->∃avs,R avs/\CV W U avs cs
theorem CV.one {a:AV} {c:Value} (h1:a.one=true) (h2:VD W U a c):CV W U [a] [c]:=
 ⟨rfl,fun j hj=>by
  have:j=0:=by simpa using hj
  subst this;exact⟨h1,h2⟩⟩
theorem CV.app {a b:List AV} {cs ds:List Value} (h1:CV W U a cs) (h2:CV W U b ds):CV W U (a++b) (cs++ds):=by
 have hl1:=h1.len
 refine⟨by rw[List.length_append,List.length_append,h1.len,h2.len],fun j hj=>?_⟩
 rw[List.length_append] at hj
 by_cases h:j<a.length
 ·have:=h1.at_ j h
  simp only[List.getD_eq_getElem?_getD] at this ⊢
  rw[List.getElem?_append_left h,List.getElem?_append_left (by omega)]
  exact this
 ·have:=h2.at_ (j - a.length) (by omega)
  simp only[List.getD_eq_getElem?_getD] at this ⊢
  rw[List.getElem?_append_right (by omega),List.getElem?_append_right (by omega),<-hl1]
  exact this
theorem Rds.mono {t:TypeId} {R R':List AV->Prop} (h:Rds enc P W U t R) (hR:∀avs,R avs->R' avs):Rds enc P W U t R':=fun fuel cs x hx=>by
 obtain⟨avs,h1,h2⟩:=h fuel cs x hx
 exact⟨avs,hR _ h1,h2⟩
theorem Rds.int {t:TypeId} (ht:P.underlying t=some (.int .i64)):Rds enc P W U t (fun avs=>∃n:Int,(-9223372036854775808<=n/\n<=9223372036854775807)/\avs=[I n]):=fun fuel cs x hx=>by
 obtain⟨n,rfl,_,hw⟩:=DataW.trod_int ht hx
 exact⟨_,⟨n,wf_i64 hw,rfl⟩, .one rfl (.lit _ rfl)⟩
theorem Rds.str {t:TypeId} (ht:P.underlying t=some .string):Rds enc P W U t (fun avs=>∃s:ByteArray,s.size<=maxLen/\avs=[S s]):=fun fuel cs x hx=>by
 obtain⟨s,rfl,_,hs⟩:=DataW.trod_string ht hx
 exact⟨_,⟨s,hs,rfl⟩, .one rfl (.lit _ rfl)⟩
theorem Rds.sl {t e:TypeId} {k:Nat} {R:List AV->Prop} (hU:∀b,U b) (ht:P.underlying t=some (.slice e)) (hk:P.cellsOf e=k) (hk0:0<k) (he:Rds enc P W U e R):
  Rds enc P W U t (fun avs=>∃rows:List (List AV),rows.length<=9223372036854775807/\(∀r∈rows,R r)/\avs=[.sl (rows.map .agg) false]):=by
 intro fuel cs x hx
 rcases DataW.trod_slice ht hx with ⟨rfl,_⟩|⟨a,len,cap,elems,rest,n,_,rfl,_,_,hl,hm,hlen,hel,hsp,_⟩
 ·exact⟨_,⟨[],by simp,by simp,rfl⟩, .one rfl (.nil _ _)⟩
 ·obtain⟨hrl,hre⟩:=hsp rfl
  rw[hk] at hel hre
  have key:∀i,i<cap->∃avs ds,(i<len->R avs)/\CV W U avs ds/\ds.length=k/\∀j,j<k->W.cell? ((a.add (i*k)).add j)=ds[j]?:=by
   intro i hi
   have hb:∃y,(W.cells? 0 (a.add (i*k)) k).bind (DataW.trod enc P W 0 (fun _=>true) true n e)=some y:=by
    by_cases h:i<len
    ·rw[hel i h]
     exact⟨_,List.getElem?_eq_getElem (by omega)⟩
    ·have:=hre (i - len) (by omega)
     rw[show len+(i - len)=i by omega] at this
     rw[this]
     exact⟨_,List.getElem?_eq_getElem (by omega)⟩
   obtain⟨y,hy⟩:=hb
   rw[Option.bind_eq_some_iff] at hy
   obtain⟨ds,h1,h2⟩:=hy
   obtain⟨_,h3,h4⟩:=World.cells?_some h1
   obtain⟨avs,h5,h6⟩:=he _ _ _ h2
   exact⟨avs,ds,fun _=>h5,h6,h3,h4⟩
  by_cases h0:cap=0
  ·obtain rfl:len=0:=by omega
   subst h0
   exact⟨_,⟨[],by simp,by simp,rfl⟩, .one rfl (.nil _ _)⟩
  ·have hspot:a=⟨a.block,a.off,none⟩/\a.block<W.heap.size:=by
    obtain⟨_,ds,_,_,hd,hc⟩:=key 0 (by omega)
    have h1:=hc 0 hk0
    rw[List.getElem?_eq_getElem (by omega)] at h1
    have h2:=cell_spot h1
    have e1:(a.add (0*k)).add 0=a:=by rw[Nat.zero_mul];unfold Addr.add;cases a with|mk b o s=>cases s<;>rfl
    rw[e1] at h2
    exact h2
   obtain⟨ea,hsz⟩:=hspot
   have pick:∀i,∃avs:List AV,i<len->R avs/\∃ds,CV W U avs ds/\ds.length=k/\∀j,j<k->W.cell? ⟨a.block,a.off+(i*k+j),none⟩=ds[j]?:=by
    intro i
    by_cases h:i<len
    ·obtain⟨avs,ds,h1,h2,h3,h4⟩:=key i (by omega)
     refine⟨avs,fun _=>⟨h1 h,ds,h2,h3,fun j hj=>?_⟩⟩
     have h5:=h4 j hj
     rw[ea,add_plain,add_plain] at h5
     rw[<-h5]
     show W.cell? ⟨a.block,a.off+(i*k+j),none⟩=W.cell? ⟨a.block,a.off+i*k+j,none⟩
     rw[Nat.add_assoc]
    ·exact⟨[],fun h2=>absurd h2 h⟩
   obtain⟨g,hg⟩:=Classical.axiomOfChoice pick
   have hrow:∀i (hi:i<((List.range len).map g).length),((List.range len).map g)[i]=g i:=fun i hi=>by simp
   have hgl:∀i,i<len->(g i).length=k:=fun i hi=>by
    obtain⟨_,ds,h2,h3,_⟩:=hg i hi
    rw[h2.len,h3]
   refine⟨_,⟨(List.range len).map g,by rw[List.length_map,List.length_range];unfold maxLen at hm;omega,?_,rfl⟩, .one rfl ?_⟩
   ·intro r hr
    obtain⟨i,hi,rfl⟩:=List.mem_map.1 hr
    exact(hg i (List.mem_range.1 hi)).1
   ·have hlz:((List.range len).map g |>.map AV.agg).length=len:=by simp
    have:=VD.sl (w:=W) (U:=U) ((List.range len).map g |>.map AV.agg) false a.block a.off cap k (fun j=>(W.cell? ⟨a.block,a.off+j,none⟩).getD undef) (hU _) hsz (by rw[hlz];exact hl) hm (by simp) hk0
     (by
      intro i hi
      rw[hlz] at hi
      simp only[List.getElem_map,List.getElem_range,AV.cells]
      exact hgl i hi)
     (by
      intro j hj
      rw[hlz] at hj
      have hi:j / k<len:=Nat.div_lt_of_lt_mul (by rwa[Nat.mul_comm] at hj)
      obtain⟨_,ds,_,h3,h4⟩:=hg (j / k) hi
      have h5:=h4 (j % k) (Nat.mod_lt _ hk0)
      rw[Nat.div_add_mod',List.getElem?_eq_getElem (by rw[h3];exact Nat.mod_lt _ hk0)] at h5
      rw[h5];rfl)
     (by
      intro i hi j hj
      rw[hlz] at hi
      simp only[List.getElem_map,List.getElem_range,AV.cells] at hj ⊢
      obtain⟨_,ds,h2,h3,_⟩:=hg i hi
      have:=(h2.at_ j hj).1
      rwa[List.getD_eq_getElem?_getD,List.getElem?_eq_getElem hj] at this)
     (by
      intro i hi j hj
      rw[hlz] at hi
      simp only[List.getElem_map,List.getElem_range,AV.cells] at hj ⊢
      obtain⟨_,ds,h2,h3,h4⟩:=hg i hi
      have h5:=(h2.at_ j hj).2
      rw[List.getD_eq_getElem?_getD,List.getElem?_eq_getElem hj] at h5
      have hjk:j<k:=by rw[hgl i hi] at hj;exact hj
      have h6:=h4 j hjk
      rw[List.getElem?_eq_getElem (by omega)] at h6
      rw[h6]
      rw[List.getD_eq_getElem?_getD,List.getElem?_eq_getElem (by omega)] at h5
      exact h5)
    rw[hlz] at this
    rw[<-ea] at this
    exact this
theorem struct_go {n:Nat} {cs:List Value}:∀(fl:List Field) (Rs:List (List AV->Prop)) (o:Nat),All2 (fun(f:Field) R=>Rds enc P W U f.type R) fl Rs->
  (∀f∈fl,∃x,DataW.trod enc P W 0 (fun _=>true) true n f.type ((cs.drop f.offset).take (P.cellsOf f.type))=some x)->
  (fl.map (·.offset)=(List.range fl.length).map fun i=>o+((fl.take i).map fun f=>P.cellsOf f.type).sum)->o+(fl.map fun f=>P.cellsOf f.type).sum=cs.length->
  ∃avs,RsApp Rs avs/\CV W U avs (cs.drop o)
 |[],_,o, .nil,_,_,hsum=>by
  refine⟨[],rfl,?_⟩
  have:cs.drop o=[]:=List.drop_eq_nil_of_le (by simp at hsum;omega)
  rw[this]
  exact⟨rfl,fun j hj=>absurd hj (Nat.not_lt_zero _)⟩
 |f::fl,R::Rs,o, .cons h1 h2,ht,ho,hsum=>by
  have hof:f.offset=o:=by
   have:=congrArg (fun l=>l.head?) ho
   simpa[List.range_succ_eq_map] using this
  obtain⟨x,hx⟩:=ht f List.mem_cons_self
  obtain⟨avs,ha,hc⟩:=h1 _ _ _ hx
  have hsum':o+P.cellsOf f.type+(fl.map fun f=>P.cellsOf f.type).sum=cs.length:=by
   rw[List.map_cons,List.sum_cons] at hsum;omega
  have ho':fl.map (·.offset)=(List.range fl.length).map fun i=>o+P.cellsOf f.type+((fl.take i).map fun f=>P.cellsOf f.type).sum:=by
   have:=congrArg List.tail ho
   simp only[List.map_cons,List.tail_cons,List.length_cons,List.range_succ_eq_map,List.map_map] at this
   rw[this]
   refine List.map_congr_left fun i _=>?_
   simp only[Function.comp,List.take_succ_cons,List.map_cons,List.sum_cons]
   omega
  obtain⟨bvs,hb,hd⟩:=struct_go fl Rs (o+P.cellsOf f.type) h2 (fun g hg=>ht g (List.mem_cons_of_mem _ hg)) ho' hsum'
  refine⟨avs++bvs,⟨avs,bvs,ha,hb,rfl⟩,?_⟩
  have:=hc.app hd
  rw[hof,<-List.drop_drop,List.take_append_drop] at this
  exact this
theorem Rds.struct {t:TypeId} {fs:Array Field} (ht:P.underlying t=some (.struct fs)) {Rs:List (List AV->Prop)} (hR:All2 (fun(f:Field) R=>Rds enc P W U f.type R) fs.toList Rs)
  (ho:(fs.toList.map (·.offset)=(List.range fs.toList.length).map fun i=>0+((fs.toList.take i).map fun f=>P.cellsOf f.type).sum)) (hs:(fs.toList.map fun f=>P.cellsOf f.type).sum=P.cellsOf t):
  Rds enc P W U t (RsApp Rs):=by
 intro fuel cs x hx
 obtain⟨xs,n,_,_,hl,hxl,hf⟩:=DataW.trod_struct ht hx
 have:=struct_go (n:=n) (cs:=cs) fs.toList Rs 0 hR (fun f hfm=>by
  obtain⟨i,hi,rfl⟩:=List.getElem_of_mem hfm
  have h1:=hf i fs.toList[i] (by simp[Array.getElem?_eq_getElem (by simpa using hi)])
  rw[h1]
  exact⟨_,List.getElem?_eq_getElem (by simpa[hxl] using hi)⟩) ho (by rw[hs,hl];omega)
 rwa[List.drop_zero] at this
theorem arg_rd_slice {t e:TypeId} {v:Value} {d:DataW H} {ps:List MemPlace} {R:List AV->Prop} (ht:P.underlying t=some (.slice e)) (hval:Value.okWide P W .any 0 t v) (hd:DataW.Trod enc P W 0 (fun _=>true) true t v d ps) (h:Rds enc P W U t R):
  ∃avs,R avs/\CV W U avs [v]:=by
 obtain⟨a,len,cap,rfl⟩:=okWide_slice ht hval
 obtain⟨fuel,hf⟩:=hd
 exact h _ _ _ hf
end
end Go.Sym
