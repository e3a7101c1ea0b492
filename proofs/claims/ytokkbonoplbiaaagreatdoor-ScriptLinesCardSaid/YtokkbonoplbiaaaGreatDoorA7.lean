/- Lemmas towards scriptLines_card: no conditions of their own beyond those that each one states. -/
import Derived.Test.YtokkbonoplbiaaaGreatDoorA6
import Derived.Lib.SplitLaws
import Derived.Lib.Replace
import Derived.Lib.AtoiAll
import Derived.Lib.ItoaNum
import Derived.Lib.Join
import Derived.Lib.Repeat
set_option linter.all false
set_option linter.unusedSimpArgs false
set_option linter.unusedVariables false
set_option linter.deprecated false
namespace Go.Scr
open Go Go.Lib
abbrev Bs:=List UInt8
def splitL (c:UInt8):Bs->List Bs
 |[]=>[[]]
 |x::r=>if x=c then[]::splitL c r else
   match splitL c r with
   |[]=>[[x]]
   |w::ws=>(x::w)::ws
theorem splitL_ne (c:UInt8):∀s,splitL c s≠[]
 |[]=>by simp[splitL]
 |x::r=>by
  unfold splitL
  split
  ·simp
  ·split<;>simp
theorem splitL_word {c:UInt8}:∀{w:Bs},c∉w->splitL c w=[w]
 |[],_=>rfl
 |x::r,h=>by
  have h1:x≠c:=fun e=>h (by simp[e])
  have h2:c∉r:=fun e=>h (List.mem_cons_of_mem _ e)
  rw[splitL,if_neg h1,splitL_word h2]
theorem splitL_cons {c:UInt8} {r:Bs}:∀{w:Bs},c∉w->splitL c (w++c::r)=w::splitL c r
 |[],_=>by simp[splitL]
 |x::w,h=>by
  have h1:x≠c:=fun e=>h (by simp[e])
  have h2:c∉w:=fun e=>h (List.mem_cons_of_mem _ e)
  rw[List.cons_append,splitL,if_neg h1,splitL_cons h2]
theorem firstOf (c:UInt8):∀s:Bs,c∉s\/∃w r,s=w++c::r/\c∉w
 |[]=> .inl (by simp)
 |x::s=>by
  by_cases h:x=c
  ·subst h;exact .inr ⟨[],s,rfl,by simp⟩
  ·rcases firstOf c s with h1|⟨w,r,rfl,h2⟩
   ·refine .inl fun e=>?_
    rcases List.mem_cons.1 e with e|e
    ·exact h e.symm
    ·exact h1 e
   ·refine .inr ⟨x::w,r,rfl,fun e=>?_⟩
    rcases List.mem_cons.1 e with e|e
    ·exact h e.symm
    ·exact h2 e
theorem byWords (c:UInt8) {p:Bs->Prop} (h0:∀w,c∉w->p w) (h1:∀w r,c∉w->p r->p (w++c::r)) (s:Bs):p s:=by
 generalize hn:s.length=n
 induction n using Nat.strongRecOn generalizing s with
 |_ n ih=>
  rcases firstOf c s with h|⟨w,r,rfl,h⟩
  ·exact h0 s h
  ·refine h1 w r h (ih r.length ?_ r rfl)
   subst hn
   simp only[List.length_append,List.length_cons]
   omega
theorem splitL_length (c:UInt8) (s:Bs):(splitL c s).length=s.count c+1:=by
 refine byWords c (p:=fun s=>(splitL c s).length=s.count c+1) ?_ ?_ s
 ·intro w h
  rw[splitL_word h,List.count_eq_zero_of_not_mem h];rfl
 ·intro w r h ih
  rw[splitL_cons h,List.length_cons,ih,List.count_append,List.count_eq_zero_of_not_mem h,List.count_cons_self]
  omega
theorem splitL_len (c:UInt8) (s:Bs):∀w∈splitL c s,w.length<=s.length:=by
 refine byWords c (p:=fun s=>∀w∈splitL c s,w.length<=s.length) ?_ ?_ s
 ·intro w h x hx
  rw[splitL_word h] at hx
  rw[List.mem_singleton.1 hx];exact Nat.le_refl _
 ·intro w r h ih x hx
  rw[splitL_cons h] at hx
  simp only[List.length_append,List.length_cons]
  rcases List.mem_cons.1 hx with rfl|hx
  ·omega
  ·have:=ih x hx;omega
theorem join_cons2 (c:UInt8) (w:Bs) {ws:List Bs} (h:ws≠[]):join (w::ws) [c]=w++c::join ws [c]:=by
 cases ws with
 |nil=>exact absurd rfl h
 |cons y r=>
  rw[join_cons,join_cons]
  simp[joinTail]
theorem splitL_join (c:UInt8):∀{ws:List Bs},ws≠[]->(∀w∈ws,c∉w)->splitL c (join ws [c])=ws
 |[],h,_=>absurd rfl h
 |[w],_,h=>by rw[join_one,splitL_word (h w (by simp))]
 |w::y::r,_,h=>by
  rw[join_cons2 c w (by simp),splitL_cons (h w (by simp)),splitL_join c (by simp) (fun x hx=>h x (List.mem_cons_of_mem _ hx))]
theorem index_not (c:UInt8):∀{s:Bs},c∉s->index s [c]=-1
 |[],_=>rfl
 |x::r,h=>by
  have h1:c≠x:=fun e=>h (by simp[e])
  have h2:c∉r:=fun e=>h (List.mem_cons_of_mem _ e)
  unfold index
  rw[index_not c h2]
  simp[h1]
theorem index_at (c:UInt8) (r:Bs):∀{w:Bs},c∉w->index (w++c::r) [c]=w.length
 |[],_=>by
  show index (c::r) [c]=_
  unfold index
  simp
 |x::w,h=>by
  have h1:c≠x:=fun e=>h (by simp[e])
  have h2:c∉w:=fun e=>h (List.mem_cons_of_mem _ e)
  rw[List.cons_append]
  unfold index
  rw[index_at c r h2]
  have h3:¬((w.length:Int)=-1):=by omega
  simp[h1,h3]
theorem splitK_eq (c:UInt8) (s:Bs):splitK [c] 0 (count s [c]) s=splitL c s:=by
 refine byWords c (p:=fun s=>splitK [c] 0 (count s [c]) s=splitL c s) ?_ ?_ s
 ·intro w h
  rw[splitL_word h,count_miss (index_not c h),splitK]
 ·intro w r h ih
  have hi:=index_at c r h
  rw[count_hit (by simp) hi,Nat.add_comm 1,splitL_cons h]
  have hm:¬(index (w++c::r) [c]==-1)=true:=fun e=>by have:=beq_iff_eq.1 e;omega
  rw[splitK,if_neg hm,hi]
  have e1:(w++c::r).drop (w.length+[c].length)=r:=by
   rw[List.drop_append]
   simp
  rw[Int.toNat_natCast,e1,ih]
  simp
theorem splitB_eq (c:UInt8) (s:ByteArray):(splitB ⟨#[c]⟩ 0 (countB s ⟨#[c]⟩) s).map (·.data.toList)=splitL c s.data.toList:=by
 rw[splitB_data]
 exact splitK_eq c _
theorem cut_not {c:UInt8} {s:Bs} (h:c∉s):cut s [c]=(s,[],false):=by
 unfold cut
 rw[index_not c h,if_neg (by omega)]
theorem cut_at {c:UInt8} {w r:Bs} (h:c∉w):cut (w++c::r) [c]=(w,r,true):=by
 unfold cut
 rw[index_at c r h,if_pos (by omega),Int.toNat_natCast,List.drop_append]
 simp
def swapB (a b:UInt8) (s:Bs):Bs:=s.map fun x=>if x=a then b else x
theorem swapB_length (a b:UInt8) (s:Bs):(swapB a b s).length=s.length:=by simp[swapB]
theorem swapB_not {a b:UInt8} {s:Bs} (h:a∉s):swapB a b s=s:=by
 unfold swapB
 conv=>rhs;rw[<-List.map_id s]
 refine List.map_congr_left fun x hx=>?_
 have hx':x≠a:=fun e=>h (by rw[<-e];exact hx)
 show(if x=a then b else x)=x
 rw[if_neg hx']
theorem replaceK_eq (a b:UInt8) (s:Bs):replaceK [a] [b] (count s [a]) s=swapB a b s:=by
 refine byWords a (p:=fun s=>replaceK [a] [b] (count s [a]) s=swapB a b s) ?_ ?_ s
 ·intro w h
  rw[swapB_not h,count_miss (index_not a h),replaceK]
 ·intro w r h ih
  have hi:=index_at a r h
  rw[count_hit (by simp) hi,Nat.add_comm 1,replaceK_hit _ _ _ _ _ hi]
  have e1:(w++a::r).drop (w.length+[a].length)=r:=by
   rw[List.drop_append]
   simp
  rw[e1,ih]
  simp only[swapB,List.map_append,List.map_cons,if_true,List.take_left]
  have:=swapB_not (b:=b) h
  simp only[swapB] at this
  rw[this]
  simp
theorem replaceAll_eq {a b:UInt8} (h:a≠b) (s:Bs):replaceAll s [a] [b]=swapB a b s:=by
 unfold replaceAll replace
 rw[if_neg (by simp[h])]
 unfold replaceNum
 rw[if_pos (.inl (by omega)),replaceK_eq]
def digit (c:UInt8):Bool:=decide (48<=c.toNat/\c.toNat<=57)
def numL (acc:Nat) (s:Bs):Nat:=s.foldl (fun n c=>10*n+(c.toNat - 48)) acc
theorem numL_snoc (acc:Nat) (a:Bs) (c:UInt8):numL acc (a++[c])=10*numL acc a+(c.toNat - 48):=by simp[numL]
theorem dig_toNat {n:Nat} (h:n<10):(UInt8.ofNat (48+n)).toNat=48+n:=by
 simp;omega
theorem dig_digit {n:Nat} (h:n<10):digit (UInt8.ofNat (48+n))=true:=by
 unfold digit
 rw[dig_toNat h]
 exact decide_eq_true (by omega)
theorem numL_ge (a:Nat):∀s,a<=numL a s
 |[]=>Nat.le_refl _
 |c::s=>by
  have h:a<=10*a+(c.toNat - 48):=by omega
  exact Nat.le_trans h (numL_ge _ s)
theorem dec_num (u:Nat):numL 0 (decDigits u)=u:=by
 induction u using Nat.strongRecOn with
 |_ u ih=>
  by_cases h:u<10
  ·rw[decDigits_one h]
   show 10*0+((UInt8.ofNat (48+u)).toNat - 48)=u
   rw[dig_toNat h];omega
  ·rw[decDigits,dif_neg h,numL_snoc,ih _ (by omega),dig_toNat (by omega)]
   omega
theorem dec_digit (u:Nat):∀c∈decDigits u,digit c=true:=by
 induction u using Nat.strongRecOn with
 |_ u ih=>
  by_cases h:u<10
  ·rw[decDigits_one h]
   intro c hc
   rw[List.mem_singleton.1 hc]
   exact dig_digit h
  ·rw[decDigits,dif_neg h]
   intro c hc
   rcases List.mem_append.1 hc with hc|hc
   ·exact ih _ (by omega) c hc
   ·rw[List.mem_singleton.1 hc];exact dig_digit (by omega)
theorem dec_len {u k:Nat} (h:u<10^(k+1)):(decDigits u).length<=k+1:=by
 rw[decDigits_length]
 induction k generalizing u with
 |zero=>rw[nDigits_small (by simpa using h)];exact Nat.le_refl _
 |succ k ih=>
  by_cases h1:u<10
  ·rw[nDigits_small h1];omega
  ·rw[nDigits_big h1]
   have:=ih (u:=u / 10) (by rw[Nat.pow_succ] at h;omega)
   omega
theorem dec_ne (u:Nat):decDigits u≠[]:=by
 intro h
 have:=decDigits_length u
 rw[h] at this
 have:=nDigits_pos u
 simp at*
 omega
theorem dec_head (u:Nat):u≠0->(decDigits u).head?≠some 48:=by
 induction u using Nat.strongRecOn with
 |_ u ih=>
  intro h0
  by_cases h:u<10
  ·rw[decDigits_one h]
   intro e
   have e:UInt8.ofNat (48+u)=48:=by simpa using e
   have:=congrArg UInt8.toNat e
   rw[dig_toNat h] at this
   simp at this
   omega
  ·rw[decDigits,dif_neg h]
   intro e
   refine ih (u / 10) (by omega) (by omega) ?_
   rw[<-e]
   cases hd:decDigits (u / 10) with
   |nil=>exact absurd hd (dec_ne _)
   |cons=>rfl
theorem parse_num:∀(s:Bs) (acc:Nat),(∀c∈s,digit c=true)->numL acc s<1844674407370955162->parseUint10 acc s= .ok (numL acc s)
 |[],acc,_,_=>rfl
 |c::s,acc,h,h1=>by
  have hc:48<=c.toNat/\c.toNat<=57:=of_decide_eq_true (h c (by simp))
  have h2:numL (10*acc+(c.toNat - 48)) s<1844674407370955162:=h1
  have h3:=numL_ge (10*acc+(c.toNat - 48)) s
  have e:acc*10+(c.toNat - 48)=10*acc+(c.toNat - 48):=by omega
  rw[parseUint10,if_pos hc,if_neg (by omega),if_neg (by omega),e]
  exact parse_num s _ (fun x hx=>h x (List.mem_cons_of_mem _ hx)) h2
theorem atoi_num {s:Bs} (h0:s≠[]) (h:∀c∈s,digit c=true) (h1:numL 0 s<1844674407370955162):atoiAll s= .ok (numL 0 s:Nat):=by
 cases s with
 |nil=>exact absurd rfl h0
 |cons c r=>
  have hc:48<=c.toNat/\c.toNat<=57:=of_decide_eq_true (h c (by simp))
  unfold atoiAll
  simp only[]
  rw[if_neg (by omega)]
  unfold parseMag
  rw[if_neg (by simp),parse_num _ 0 h h1]
  simp only[]
  rw[if_neg (by omega),if_neg (by omega),if_neg (by omega)]
theorem numL_lt:∀(s:Bs) (a:Nat),(∀c∈s,digit c=true)->numL a s<(a+1)*10^s.length
 |[],a,_=>by simp[numL]
 |c::s,a,h=>by
  have hc:48<=c.toNat/\c.toNat<=57:=of_decide_eq_true (h c (by simp))
  have h1:=numL_lt s (10*a+(c.toNat - 48)) (fun x hx=>h x (List.mem_cons_of_mem _ hx))
  show numL (10*a+(c.toNat - 48)) s<_
  rw[List.length_cons,Nat.pow_succ,Nat.mul_comm (10^s.length),<-Nat.mul_assoc]
  refine Nat.lt_of_lt_of_le h1 (Nat.mul_le_mul_right _ (by omega))
theorem all_take {p:UInt8->Bool} {s:Bs} (h:s.all p=true) (i:Nat):(s.take i).all p=true:=by
 rw[List.all_eq_true] at h ⊢
 exact fun x hx=>h x (List.mem_of_mem_take hx)
theorem all_drop {p:UInt8->Bool} {s:Bs} (h:s.all p=true) (i:Nat):(s.drop i).all p=true:=by
 rw[List.all_eq_true] at h ⊢
 exact fun x hx=>h x (List.mem_of_mem_drop hx)
theorem all_getD {p:UInt8->Bool} {s:Bs} (h:s.all p=true) {i:Nat} (hi:i<s.length):p (s.getD i 0)=true:=by
 rw[List.all_eq_true] at h
 rw[List.getD_eq_getElem?_getD,List.getElem?_eq_getElem hi]
 exact h _ (List.getElem_mem hi)
theorem take_snoc {s:Bs} {i:Nat} (hi:i<s.length):s.take (i+1)=s.take i++[s.getD i 0]:=by
 rw[List.take_succ,List.getD_eq_getElem?_getD,List.getElem?_eq_getElem hi]
 rfl
theorem numL_take {s:Bs} {i:Nat} (h:s.all digit=true) (hi:i<=s.length):numL 0 (s.take i)<10^i:=by
 have:=numL_lt (s.take i) 0 (List.all_eq_true.1 (all_take h i))
 rw[List.length_take,Nat.min_eq_left hi] at this
 omega
def digs (n:Nat):Nat->Bs
 |0=>[]
 |k+1=>digs (n / 10) k++[UInt8.ofNat (48+n % 10)]
theorem digs_length:∀(k n:Nat),(digs n k).length=k
 |0,_=>rfl
 |k+1,n=>by simp[digs,digs_length k]
theorem digs_digit:∀(k n:Nat),∀c∈digs n k,digit c=true
 |0,_=>by simp[digs]
 |k+1,n=>by
  intro c hc
  rcases List.mem_append.1 hc with hc|hc
  ·exact digs_digit k _ c hc
  ·rw[List.mem_singleton.1 hc];exact dig_digit (by omega)
theorem digs_num:∀(k n:Nat),numL 0 (digs n k)=n % 10^k
 |0,n=>by simp[digs,numL,Nat.mod_one]
 |k+1,n=>by
  rw[digs,numL_snoc,digs_num k,dig_toNat (by omega),Nat.pow_succ,Nat.mul_comm (10^k),Nat.mod_mul]
  omega
theorem digs_zero:∀k,digs 0 k=List.replicate k 48
 |0=>rfl
 |k+1=>by
  rw[digs,digs_zero k,List.replicate_succ']
  rfl
theorem digs_app:∀(j k n:Nat),digs n (k+j)=digs (n / 10^j) k++digs n j
 |0,k,n=>by simp[digs]
 |j+1,k,n=>by
  rw[<-Nat.add_assoc,digs,digs_app j k,digs,<-List.append_assoc,Nat.div_div_eq_div_mul,Nat.pow_succ,Nat.mul_comm 10]
theorem pad_eq (w n:Nat) (h:n<10^(w+1)):repeatL [48] (w+1 - (decDigits n).length)++decDigits n=digs n (w+1):=by
 rw[decDigits_length]
 have rep:∀k,repeatL [48] k=List.replicate k 48:=fun k=>by
  have:=repeatL_replicate 48 1 k
  simpa using this
 rw[rep]
 induction w generalizing n with
 |zero=>
  have hn:n<10:=by simpa using h
  rw[nDigits_small hn,decDigits_one hn]
  simp[digs,Nat.mod_eq_of_lt hn]
 |succ w ih=>
  by_cases hn:n<10
  ·rw[nDigits_small hn,decDigits_one hn,digs,Nat.mod_eq_of_lt hn,Nat.div_eq_of_lt hn,digs_zero]
   rfl
  ·rw[nDigits_big hn,decDigits,dif_neg hn,digs,<-ih (n / 10) (by rw[Nat.pow_succ] at h;omega),<-List.append_assoc]
   rw[show w+1+1 - (nDigits (n / 10)+1)=w+1 - nDigits (n / 10) by omega]
open Go Go.Lib
structure Plt where
 l:Int
 a:Int
 s:Int
 deriving DecidableEq,Inhabited
structure Flt where
 car:Bs
 num:Int
 suf:Bs
 day:Int
 deriving DecidableEq,Inhabited
structure Flaw where
 k:Int
 n:Int
 w:Int
 deriving DecidableEq,Inhabited
structure Rev where
 k:Int
 amt:Int
 flt:Flt
 deriving DecidableEq,Inhabited
structure Acx where
 k:Int
 mv:List Flaw
 gl:List Flaw
 lost:Bool
 plt:Plt
 node:Int
 img:Int
 clr:Bool
 txt:Bs
 rev:Rev
 dev:Int
 con:Int
 flt:Flt
 deriving DecidableEq,Inhabited
def P0:Plt:=⟨0,0,0⟩
def F0:Flt:=⟨[],0,[],0⟩
def W0:Flaw:=⟨0,0,0⟩
def R0:Rev:=⟨0,0,F0⟩
def A0 (k:Int):Acx:=⟨k,[],[],false,P0,0,0,false,[],R0,0,0,F0⟩
def Plt.ok (p:Plt):Bool:=decide (0<=p.l/\p.l<=9/\1<=p.a/\p.a<=999/\0<=p.s/\p.s<=999999)
def Plt.num (p:Plt):Int:=(p.l*1000+p.a)*1000000+p.s
def Plt.fmt (p:Plt):Bs:=if p.ok then digs p.num.toNat 10 else[]
def pltOf (s:Bs):Plt:=⟨numL 0 (s.take 1),numL 0 ((s.take 4).drop 1),numL 0 (s.drop 4)⟩
def pltParse (s:Bs):Plt×Int:=if s.length=10/\s.all digit=true then(if(pltOf s).ok then(pltOf s,0) else(P0,1)) else(P0,3)
def letter (c:UInt8):Bool:=decide (65<=c.toNat/\c.toNat<=90)
def carB (s:Bs):Bool:=decide (s.length=2)&&s.all (fun c=>letter c||digit c)&&s.any letter
def sufB (s:Bs):Bool:=decide (s.length<=1)&&s.all letter
def Flt.ok (f:Flt):Bool:=carB f.car&&decide (1<=f.num/\f.num<=9999)&&sufB f.suf&&decide (0<=f.day/\f.day<=99)
def Flt.des (f:Flt):Bs:=if f.ok then f.car++digs f.num.toNat 4++f.suf else[]
def Flt.fmt (f:Flt):Bs:=if f.ok then f.car++digs f.num.toNat 4++f.suf++[47]++digs f.day.toNat 2 else[]
def fltOf (s:Bs):Flt:=⟨s.take 2,numL 0 ((s.take 6).drop 2),(s.take (s.length - 3)).drop 6,numL 0 (s.drop (s.length - 2))⟩
def fltShape (s:Bs):Bool:=decide (s.length=9\/s.length=10)&&decide (s.getD (s.length - 3) 0=47)&&carB (s.take 2)&&((s.take 6).drop 2).all digit&&sufB ((s.take (s.length - 3)).drop 6)&&(s.drop (s.length - 2)).all digit
def fltParse (s:Bs):Flt×Int:=if fltShape s then(if(fltOf s).num=0 then(F0,1) else(fltOf s,0)) else(F0,3)
def only (x:Acx):Acx:=
 if x.k=1 then {A0 x.k with mv:=x.mv,gl:=x.gl,lost:=x.lost}
 else if x.k=2\/x.k=10 then {A0 x.k with plt:=x.plt,node:=x.node}
 else if x.k=3 then {A0 x.k with txt:=x.txt}
 else if x.k=4 then {A0 x.k with img:=x.img,clr:=x.clr}
 else if x.k=5 then {A0 x.k with rev:=x.rev}
 else if x.k=6\/x.k=7 then {A0 x.k with node:=x.node}
 else if x.k=8 then {A0 x.k with dev:=x.dev,plt:=x.plt,node:=x.node,con:=x.con}
 else if x.k=9 then {A0 x.k with dev:=x.dev,plt:=x.plt,con:=x.con}
 else if x.k=11\/x.k=12 then {A0 x.k with dev:=x.dev}
 else if x.k=13 then {A0 x.k with flt:=x.flt}
 else A0 x.k
abbrev Wr:=List Bs×Bool
def wWord (w:Wr) (s:Bs):Wr:=(w.1++[s],w.2||s.isEmpty)
def numB (n:Int):Bool:=decide (0<=n/\n<=999999)
def decW (n:Int):Bs:=if numB n then decDigits n.toNat else[]
def wNums (w:Wr) (l:List Int):Wr:=l.foldl (fun w n=>wWord w (decW n)) w
def faultN (k:Int):Bs:=
 if k=1 then[115,116,105,99,107]
 else if k=2 then[115,108,105,100,101]
 else if k=3 then[109,105,115,115]
 else if k=4 then[103,104,111,115,116]
 else if k=5 then[117,110,114,101,97,100]
 else if k=6 then[119,114,111,110,103]
 else[]
def revN (k:Int):Bs:=
 if k=1 then[100,101,108,97,121]
 else if k=2 then[111,112,101,110,115]
 else if k=3 then[115,116,97,110,100]
 else if k=4 then[99,97,110,99,101,108]
 else if k=5 then[114,101,115,116,111,114,101]
 else[]
def wFault (f:Flaw):Bs:=faultN f.k++[58]++decW f.n++[58]++decW f.w
def flawB (lo hi:Int) (f:Flaw):Bool:=decide (lo<=f.k/\f.k<=hi)&&numB f.n&&numB f.w
def wFaults (lo hi:Int):List Flaw->Wr->Wr
 |[],w=>w
 |f::r,w=>if flawB lo hi f then wFaults lo hi r (wWord w (wFault f)) else(w.1,true)
def txtB (s:Bs):Bool:=s.all fun c=>decide (c.toNat=10\/(32<=c.toNat/\c.toNat<=126/\c.toNat≠124))
def wMsg (w:Wr) (s:Bs):Wr:=(w.1++[swapB 10 124 s],w.2||!txtB s)
def wRev (w:Wr) (r:Rev):Wr:=
 if 1<=r.k/\r.k<=5 then
  (if 4<=r.k then((wWord (wWord w (revN r.k)) r.flt.fmt).1,(wWord (wWord w (revN r.k)) r.flt.fmt).2||!decide (r.amt=0))
   else wNums (wWord (wWord w (revN r.k)) r.flt.fmt) [r.amt])
 else(w.1,true)
def sTick:Bs:=[116,105,99,107]
def sLost:Bs:=[108,111,115,116]
def sInduct:Bs:=[105,110,100,117,99,116]
def sMessage:Bs:=[109,101,115,115,97,103,101]
def sVerdict:Bs:=[118,101,114,100,105,99,116]
def sClear:Bs:=[99,108,101,97,114]
def sAlarm:Bs:=[97,108,97,114,109]
def sBreak:Bs:=[98,114,101,97,107]
def sRepair:Bs:=[114,101,112,97,105,114]
def sLoad:Bs:=[108,111,97,100]
def sUnload:Bs:=[117,110,108,111,97,100]
def sPick:Bs:=[112,105,99,107]
def sOffline:Bs:=[111,102,102,108,105,110,101]
def sOnline:Bs:=[111,110,108,105,110,101]
def sDepart:Bs:=[100,101,112,97,114,116]
def sCrash:Bs:=[99,114,97,115,104]
def wAct (w:Wr) (x:Acx):Wr:=
 if x.k=1 then wFaults 3 6 x.gl (wFaults 1 2 x.mv (if x.lost then wWord (wWord w sTick) sLost else wWord w sTick))
 else if x.k=2 then wNums (wWord (wWord w sInduct) x.plt.fmt) [x.node]
 else if x.k=3 then wMsg (wWord w sMessage) x.txt
 else if x.k=4 then wWord (wNums (wWord w sVerdict) [x.img]) (if x.clr then sClear else sAlarm)
 else if x.k=5 then wRev w x.rev
 else if x.k=6 then wNums (wWord w sBreak) [x.node]
 else if x.k=7 then wNums (wWord w sRepair) [x.node]
 else if x.k=8 then wNums (wWord (wNums (wWord w sLoad) [x.dev]) x.plt.fmt) [x.node,x.con]
 else if x.k=9 then wNums (wWord (wNums (wWord w sUnload) [x.dev]) x.plt.fmt) [x.con]
 else if x.k=10 then wNums (wWord (wWord w sPick) x.plt.fmt) [x.node]
 else if x.k=11 then wNums (wWord w sOffline) [x.dev]
 else if x.k=12 then wNums (wWord w sOnline) [x.dev]
 else if x.k=13 then wWord (wWord w sDepart) x.flt.fmt
 else wWord w sCrash
def lineS (x:Acx):Option Bs:=
 if 1<=x.k/\x.k<=14/\x=only x/\(wAct ([],false) x).2=false then some (join (wAct ([],false) x).1 [32]) else none
structure Rd where
 line:Bs
 ws:List Bs
 bad:Bool
def Rd.next (r:Rd):Bs×Rd:=
 match r.ws with
 |[]=>([],⟨r.line,[],true⟩)
 |w::ws=>(w,⟨r.line,ws,r.bad⟩)
def val (s:Bs):Option Int:=
 match atoiAll s with
 | .ok v=>if 0<=v/\v<=999999 then some v else none
 |_=>none
def Rd.value (r:Rd) (s:Bs):Int×Rd:=
 match val s with
 |some v=>(v,r)
 |none=>(0,⟨r.line,r.ws,true⟩)
def Rd.number (r:Rd):Int×Rd:=r.next.2.value r.next.1
def Rd.plate (r:Rd):Plt×Rd:=((pltParse r.next.1).1,⟨r.line,r.next.2.ws,r.next.2.bad||!decide ((pltParse r.next.1).2=0)⟩)
def Rd.flight (r:Rd):Flt×Rd:=((fltParse r.next.1).1,⟨r.line,r.next.2.ws,r.next.2.bad||!decide ((fltParse r.next.1).2=0)⟩)
def kindOf (s:Bs):Int:=
 if s=faultN 1 then 1 else if s=faultN 2 then 2 else if s=faultN 3 then 3 else if s=faultN 4 then 4 else if s=faultN 5 then 5 else if s=faultN 6 then 6 else 0
def Rd.fault (r:Rd) (s:Bs):Flaw×Rd:=
 if(splitL 58 s).length=3/\kindOf ((splitL 58 s).getD 0 [])≠0 then
  (⟨kindOf ((splitL 58 s).getD 0 []),(r.value ((splitL 58 s).getD 1 [])).1,((r.value ((splitL 58 s).getD 1 [])).2.value ((splitL 58 s).getD 2 [])).1⟩,
   ((r.value ((splitL 58 s).getD 1 [])).2.value ((splitL 58 s).getD 2 [])).2)
 else(W0,⟨r.line,r.ws,true⟩)
def Rd.faults:Nat->Rd->List Flaw->List Flaw->List Flaw×List Flaw×Rd
 |0,r,m,g=>(m,g,r)
 |n+1,r,m,g=>
  if r.ws≠[]/\r.bad=false then
   (if(r.next.2.fault r.next.1).1.k<=2 then Rd.faults n (r.next.2.fault r.next.1).2 (m++[(r.next.2.fault r.next.1).1]) g
    else Rd.faults n (r.next.2.fault r.next.1).2 m (g++[(r.next.2.fault r.next.1).1]))
  else(m,g,r)
def Rd.tick (r:Rd):Acx×Rd:=
 if r.ws.head?=some sLost then
  ({A0 1 with lost:=true,mv:=(Rd.faults r.ws.length r.next.2 [] []).1,gl:=(Rd.faults r.ws.length r.next.2 [] []).2.1},(Rd.faults r.ws.length r.next.2 [] []).2.2)
 else
  ({A0 1 with mv:=(Rd.faults r.ws.length r [] []).1,gl:=(Rd.faults r.ws.length r [] []).2.1},(Rd.faults r.ws.length r [] []).2.2)
def Rd.message (r:Rd):Acx×Rd:=({A0 3 with txt:=swapB 124 10 (cut r.line [32]).2.1},⟨r.line,[],r.bad||!(cut r.line [32]).2.2⟩)
def Rd.verdict (r:Rd):Acx×Rd:=({A0 4 with img:=r.number.1,clr:=decide (r.number.2.next.1=sClear)},r.number.2.next.2)
def Rd.revise (k:Int) (r:Rd):Acx×Rd:=
 if k<=3 then({A0 5 with rev:=⟨k,r.flight.2.number.1,r.flight.1⟩},r.flight.2.number.2)
 else({A0 5 with rev:=⟨k,0,r.flight.1⟩},r.flight.2)
def Rd.act1 (k:Int) (r:Rd):Acx×Rd:=({A0 k with node:=r.number.1},r.number.2)
def Rd.act2 (k:Int) (r:Rd):Acx×Rd:=({A0 k with dev:=r.number.1},r.number.2)
def Rd.depart (r:Rd):Acx×Rd:=({A0 13 with flt:=r.flight.1},r.flight.2)
def Rd.crash (r:Rd):Acx×Rd:=(A0 14,r)
def Rd.act3 (k:Int) (r:Rd):Acx×Rd:=({A0 k with plt:=r.plate.1,node:=r.plate.2.number.1},r.plate.2.number.2)
def Rd.load (r:Rd):Acx×Rd:=
 ({A0 8 with dev:=r.number.1,plt:=r.number.2.plate.1,node:=r.number.2.plate.2.number.1,con:=r.number.2.plate.2.number.2.number.1},r.number.2.plate.2.number.2.number.2)
def Rd.unload (r:Rd):Acx×Rd:=
 ({A0 9 with dev:=r.number.1,plt:=r.number.2.plate.1,con:=r.number.2.plate.2.number.1},r.number.2.plate.2.number.2)
def Rd.act (r:Rd):Acx×Rd:=
 if r.next.1=sTick then r.next.2.tick
 else if r.next.1=sInduct then r.next.2.act3 2
 else if r.next.1=sMessage then r.next.2.message
 else if r.next.1=sVerdict then r.next.2.verdict
 else if r.next.1=revN 1 then r.next.2.revise 1
 else if r.next.1=revN 2 then r.next.2.revise 2
 else if r.next.1=revN 3 then r.next.2.revise 3
 else if r.next.1=revN 4 then r.next.2.revise 4
 else if r.next.1=revN 5 then r.next.2.revise 5
 else if r.next.1=sBreak then r.next.2.act1 6
 else if r.next.1=sRepair then r.next.2.act1 7
 else if r.next.1=sLoad then r.next.2.load
 else if r.next.1=sUnload then r.next.2.unload
 else if r.next.1=sPick then r.next.2.act3 10
 else if r.next.1=sOffline then r.next.2.act2 11
 else if r.next.1=sOnline then r.next.2.act2 12
 else if r.next.1=sDepart then r.next.2.depart
 else if r.next.1=sCrash then r.next.2.crash
 else(A0 0,⟨r.next.2.line,r.next.2.ws,true⟩)
def rd0 (s:Bs):Rd:=⟨s,splitL 32 s,false⟩
def parseS (s:Bs):Option Acx:=
 if(rd0 s).act.2.bad=false/\(rd0 s).act.2.ws=[]/\lineS (rd0 s).act.1=some s then some (rd0 s).act.1 else none
end Go.Scr
namespace Go.Proofs.YtokkbonoplbiaaaGreatDoor
open Go Go.Sym
open Go.Scr
theorem PE_bytsT (l:List UInt8):PE (byts l)=True:=eq_true (PE_byts l)
theorem all_byts {l:List UInt8}:(∀y∈byts l,y.cells.length=1)=True:=eq_true byts_cells
theorem lits_byts {l:List UInt8}:(∀e∈byts l,∀c∈e.cells,isLit c)=True:=by
 refine eq_true fun e he c hc=>?_
 simp only[byts,List.mem_map] at he
 obtain⟨x,_,rfl⟩:=he
 simp only[byteE,AV.cells,List.mem_singleton] at hc
 subst hc;trivial
def strs (l:List Bs):List AV:=l.map fun x=>S (strOf x)
theorem strs_length (l:List Bs):(strs l).length=l.length:=by simp[strs]
theorem strs_getD {l:List Bs} {i:Nat} (h:i<l.length):(strs l).getD i .bad=S (strOf (l.getD i [])):=by simp[strs,h]
theorem PE_strs (l:List Bs):PE (strs l)=True:=by
 refine eq_true fun e he c hc=>?_
 simp only[strs,List.mem_map] at he
 obtain⟨x,_,rfl⟩:=he
 simp only[AV.cells,List.mem_singleton] at hc
 subst hc;trivial
theorem all_strs {l:List Bs}:(∀y∈strs l,y.cells.length=1)=True:=by
 refine eq_true fun e he=>?_
 simp only[strs,List.mem_map] at he
 obtain⟨x,_,rfl⟩:=he
 rfl
theorem strs_snoc {l:List Bs} {b:Bs}:strs l++[.lit (.string (strOf b))]=strs (l++[b]):=by simp[strs]
theorem lits_strs {l:List Bs}:(∀e∈strs l,∀c∈e.cells,isLit c)=True:=by
 refine eq_true fun e he c hc=>?_
 simp only[strs,List.mem_map] at he
 obtain⟨x,_,rfl⟩:=he
 simp only[AV.cells,List.mem_singleton] at hc
 subst hc;trivial
theorem trT_strs (L:List Nat) (l:List Bs):(∀e∈strs l,∀c∈e.cells,trA true L c)=True:=by
 refine eq_true fun e he c hc=>?_
 simp only[strs,List.mem_map] at he
 obtain⟨x,_,rfl⟩:=he
 simp only[AV.cells,List.mem_singleton] at hc
 subst hc;trivial
theorem trT_byts (L:List Nat) (l:List UInt8):(∀e∈byts l,∀c∈e.cells,trA true L c)=True:=by
 refine eq_true fun e he c hc=>?_
 simp only[byts,List.mem_map] at he
 obtain⟨x,_,rfl⟩:=he
 simp only[byteE,AV.cells,List.mem_singleton] at hc
 subst hc;trivial
theorem strs_drop {l:List Bs} {i:Nat}:(strs l).drop i=strs (l.drop i):=by simp[strs]
attribute [go_sem] PE_bytsT all_byts lits_byts strs_length PE_strs all_strs strs_snoc lits_strs trT_strs trT_byts
theorem decW_len (n:Int):(decW n).length<=6:=by
 unfold decW
 split
 ·rename_i h
  have h:=of_decide_eq_true h
  exact dec_len (k:=5) (by omega)
 ·simp
theorem decimal_sat (n:Int):SatG Tryz.prog tab 104 [] [I n] [] (S (strOf (decW n))):=by
 refine uFN Tryz.func104 Tryz.ntmps104 ?_;intro w e X hC
 by_cases h:n<0
 ·have h':decide (n<0)=true:=decide_eq_true h
  have e:decW n=[]:=by unfold decW numB;rw[decide_eq_false (by omega)];rfl
  repeat refine uA1 @h' ?_
  refine uT ?_
  repeat refine uA ?_
  (refine awp_ret (ret1 uRT ?_);try rfl)
  rw[e];rfl
 ·have h':decide (n<0)=false:=decide_eq_false h
  by_cases h2:n>999999
  ·have h2':decide (999999<n)=true:=decide_eq_true h2
   have e:decW n=[]:=by unfold decW numB;rw[decide_eq_false (by omega)];rfl
   repeat refine uA1 (uI @h' @h2') ?_
   refine uT ?_
   repeat refine uA ?_
   (refine awp_ret (ret1 uRT ?_);try rfl)
   rw[e];rfl
  ·have h2':decide (999999<n)=false:=decide_eq_false h2
   have hi:=itoa_sat n (by omega) (by omega)
   have e:decW n=Lib.itoa n:=by unfold decW numB Lib.itoa;rw[decide_eq_true (by omega),if_neg h];rfl
   rw[<-e] at hi
   repeat refine uA1 (uI @h' @h2') ?_
   refine uF ?_
   refine uR ?_;intro K hK
   refine callF uTS (hi) uTS uTS uTS ?_;refine uS ?_
   refine hK _ ?_;clear hK K
   (refine awp_ret (ret1 uRT ?_);try rfl)
theorem wrap_dig {c:UInt8} (h:digit c=true):IntKind.i64.wrap (IntKind.u8.wrap ((c.toNat:Int) - 48))=(c.toNat:Int) - 48:=by
 have h:48<=c.toNat/\c.toNat<=57:=of_decide_eq_true h
 rw[IntKind.wrap_u8,IntKind.wrap_i64]
 omega
theorem pvalue_sat (s:Bs) (hs:s.length<=10) (hd:s.all digit=true):SatG Tryz.prog tab 153 [] [S (strOf s)] [] (I (numL 0 s:Nat)):=by
 refine uFN Tryz.func153 Tryz.ntmps153 ?_;intro w e X hC
 repeat refine uA ?_
 refine uW ?_
 refine awp_loopW (fun i:Nat×Nat=>⟨[(0,S (strOf s)),(3,I (numL 0 (s.take i.2):Nat)),(6,I s.length),(7,I i.2)],[],i.1⟩) (fun i=>i.2<=s.length) (fun i=>s.length - i.2) (_,0) (Nat.zero_le _) (uKF) ?_
 rintro⟨ck,i⟩ hi
 simp only at hi
 have hn:=numL_take hd hi
 have hn:numL 0 (s.take i)<10000000000:=Nat.lt_of_lt_of_le hn (Nat.pow_le_pow_right (by decide) (by omega:i<=10))
 repeat refine uA ?_
 refine uW ?_;refine condP _ rfl (fun h=>?_) (fun h=>?_)
 ·have hlt:i<s.length:=by omega
  have hdg:48<=(s.getD i 0).toNat/\(s.getD i 0).toNat<=57:=of_decide_eq_true (all_getD hd hlt)
  have e1:=take_snoc hlt
  have e2:=numL_snoc 0 (s.take i) (s.getD i 0)
  rw[<-e1] at e2
  have hw:=wrap_dig (all_getD hd hlt)
  have e3:((numL 0 (s.take (i+1)):Nat):Int)=10*(numL 0 (s.take i):Nat)+(((s.getD i 0).toNat:Int) - 48):=by omega
  repeat refine uA1 @hw ?_
  refine⟨(_,i+1),by simp only;omega,by simp only;omega, .of (Nat.le_refl _) uHF (uWF1 @e3)⟩
 ·refine awp_exit ?_
  have:i=s.length:=by omega
  subst this
  rw[List.take_length]
  repeat refine uA ?_
  (refine awp_ret (ret1 uRT ?_);try rfl)
abbrev Uc (c:UInt8):AV:= .lit (.int .u8 ((c.toNat:Nat):Int))
theorem digit_eq (c:UInt8):decide (48<=((c.toNat:Nat):Int)/\((c.toNat:Nat):Int)<=57)=digit c:=by
 unfold digit
 exact decide_eq_decide.2 (by omega)
theorem letter_eq (c:UInt8):decide (65<=((c.toNat:Nat):Int)/\((c.toNat:Nat):Int)<=90)=letter c:=by
 unfold letter
 exact decide_eq_decide.2 (by omega)
theorem pdig_sat (c:UInt8):SatG Tryz.prog tab 152 [] [Uc c] [] (B (digit c)):=by
 have:=digit_sat ((c.toNat:Nat):Int)
 rwa[digit_eq] at this
theorem fdig_sat (c:UInt8):SatG Tryz.prog tab 146 [] [Uc c] [] (B (digit c)):=by
 have:=fDigit_sat ((c.toNat:Nat):Int)
 rwa[digit_eq] at this
theorem flet_sat (c:UInt8):SatG Tryz.prog tab 145 [] [Uc c] [] (B (letter c)):=by
 have:=fLetter_sat ((c.toNat:Nat):Int)
 rwa[letter_eq] at this
theorem rdig_sat (c:UInt8):SatG Tryz.prog tab 133 [] [Uc c] [] (B (digit c)):=by
 have:=rDigit_sat ((c.toNat:Nat):Int)
 rwa[digit_eq] at this
theorem rlet_sat (c:UInt8):SatG Tryz.prog tab 132 [] [Uc c] [] (B (letter c)):=by
 have:=rLetter_sat ((c.toNat:Nat):Int)
 rwa[letter_eq] at this
theorem take_all {p:UInt8->Bool} {s:Bs} {i:Nat} (hi:i<s.length) (h:(s.take i).all p=true) (h1:p (s.getD i 0)=true):(s.take (i+1)).all p=true:=by
 rw[take_snoc hi,List.all_append,h,List.all_cons,h1]
 rfl
theorem not_all {p:UInt8->Bool} {s:Bs} {i:Nat} (hi:i<s.length) (h1:p (s.getD i 0)=false):s.all p=false:=by
 cases h:s.all p with
 |false=>rfl
 |true=>rw[all_getD h hi] at h1;cases h1
theorem all_sat (s:Bs) (k:Nat) (p:UInt8->Bool) (hl:s.length<=1000000) (hk:∀c,SatG Tryz.prog tab k [] [Uc c] [] (B (p c))):
  SatG Tryz.prog tab 147 [] [S (strOf s), .fn k []] [] (B (s.all p)):=by
 refine uFN Tryz.func147 Tryz.ntmps147 ?_;intro w e X hC
 repeat refine uA ?_
 refine uW ?_
 refine awp_loopW (fun i:Nat×Nat=>⟨[(0,S (strOf s)),(1, .fn k []),(7,I s.length),(8,I i.2)],[],i.1⟩) (fun i=>i.2<=s.length/\(s.take i.2).all p=true) (fun i=>s.length - i.2) (_,0) ⟨Nat.zero_le _,rfl⟩ (uKF) ?_
 rintro⟨ck,i⟩ ⟨hi,hj⟩
 simp only at hi hj
 repeat refine uA ?_
 refine uW ?_;refine condP _ rfl (fun h=>?_) (fun h=>?_)
 ·have hlt:i<s.length:=by omega
  have hsat:=hk (s.getD i 0)
  refine uA ?_
  cases c1:p (s.getD i 0) with
  |true=>
   rw[c1] at hsat
   refine uR ?_;intro K hK
   refine⟨by omega,?_⟩
   refine callF uTS (hsat) uTS uTS uTS ?_;refine uS ?_
   refine hK _ ?_;clear hK K
   refine uF ?_
   repeat refine uA ?_
   refine⟨(_,i+1),⟨by simp only;omega,take_all hlt hj c1⟩,by simp only;omega,uKF⟩
  |false=>
   rw[c1] at hsat
   refine uR ?_;intro K hK
   refine⟨by omega,?_⟩
   refine callF uTS (hsat) uTS uTS uTS ?_;refine uS ?_
   refine hK _ ?_;clear hK K
   refine uT ?_
   repeat refine uA ?_
   (refine awp_ret (ret1 uRT ?_);try rfl)
   rw[not_all hlt c1];rfl
 ·refine awp_exit ?_
  have:i=s.length:=by omega
  subst this
  rw[List.take_length] at hj
  repeat refine uA ?_
  (refine awp_ret (ret1 uRT ?_);try rfl)
  rw[hj];rfl
theorem letters_sat (s:Bs) (hl:s.length<=1000000):SatG Tryz.prog tab 129 [] [S (strOf s),I 0,I 1] [] (B (sufB s)):=by
 have h1:=all_sat s 145 letter hl flet_sat
 unfold sufB
 generalize s.all letter=b at*
 refine uFN Tryz.func129 Tryz.ntmps129 ?_;intro w e X hC
 refine uA ?_
 have d0:=uDt ((0:Int)<=(s.length:Int))
 by_cases c:s.length<=1
 ·have d1:=uDt ((s.length:Int)<=1)
  have d2:decide (s.length<=1)=true:=decide_eq_true c
  rw[d2,Bool.true_and]
  refine uR1 (uI @d0 @d1) ?_;intro K hK
  refine callF uTS (h1) uTS uTS uTS ?_;refine uS ?_
  refine hK _ ?_;clear hK K
  (refine awp_ret (ret1 uRT ?_);try rfl)
 ·have d1:=uDf ((s.length:Int)<=1)
  have d2:decide (s.length<=1)=false:=decide_eq_false c
  rw[d2,Bool.false_and]
  refine uR1 (uI @d0 @d1) ?_;intro K hK
  refine hK _ ?_;clear hK K
  (refine awp_ret (ret1 uRT ?_);try rfl)
theorem fdigits_sat (s:Bs) (m:Nat) (hm:m<=17):SatG Tryz.prog tab 154 [] [S (strOf s),I m] [] (.tup [I (if s≠[]/\s.length<=m/\s.all digit=true then(numL 0 s:Nat) else 0:Int),B (decide (s≠[]/\s.length<=m/\s.all digit=true))]):=by
 refine uFN Tryz.func154 Tryz.ntmps154 ?_;intro w e X hC
 refine uA ?_
 by_cases c0:s=[]
 ·subst c0
  refine uR ?_;intro K hK
  refine hK _ ?_;clear hK K
  refine uT ?_
  repeat refine uA ?_
  refine awp_ret ?_;rw[show Tryz.f154.results.toList=[.tmp 4, .tmp 5] from rfl];first|refine uRN ?_|exact uRM
  simp
 ·have d0:decide (s=[])=false:=decide_eq_false c0
  by_cases c1:s.length<=m
  ·have d1:=uDf ((m:Int)<(s.length:Int))
   have h1:=all_sat s 146 digit (by omega) fdig_sat
   cases c2:s.all digit with
   |true=>
    have ha:Lib.atoiAll s= .ok (numL 0 s:Nat):=atoi_num c0 (List.all_eq_true.1 c2) (by
     have:=numL_lt s 0 (List.all_eq_true.1 c2)
     have h3:10^s.length<=10^17:=Nat.pow_le_pow_right (by decide) (by omega)
     have h4:(0+1)*10^17<1844674407370955162:=by decide
     omega)
    have h2:=atoi_sat s (by omega)
    have e1:atoiN s=(numL 0 s:Nat):=by unfold atoiN;rw[ha]
    have e2:atoiE s= .lit .nilIface:=by unfold atoiE;rw[ha]
    rw[e1,e2] at h2
    rw[if_pos ⟨c0,c1,rfl⟩,decide_eq_true ⟨c0,c1,rfl⟩]
    rw[c2] at h1
    refine uR1 (uI @d0 @d1) ?_;intro K hK
    refine callF uTS (h1) uTS uTS uTS ?_;refine uS ?_
    refine hK _ ?_;clear hK K
    refine uF ?_
    refine uR ?_;intro K hK
    refine callF uTS (h2) uTS uTS uTS ?_;refine uS ?_
    refine hK _ ?_;clear hK K
    refine uK ?_
    refine awp_ret ?_;rw[show Tryz.f154.results.toList=[.tmp 4, .tmp 5] from rfl];first|refine uRN ?_|exact uRM
   |false=>
    rw[if_neg (fun h=>by cases h.2.2),decide_eq_false (fun h=>by cases h.2.2)]
    rw[c2] at h1
    refine uR1 (uI @d0 @d1) ?_;intro K hK
    refine callF uTS (h1) uTS uTS uTS ?_;refine uS ?_
    refine hK _ ?_;clear hK K
    refine uT ?_
    repeat refine uA ?_
    refine awp_ret ?_;rw[show Tryz.f154.results.toList=[.tmp 4, .tmp 5] from rfl];first|refine uRN ?_|exact uRM
  ·have d1:=uDt ((m:Int)<(s.length:Int))
   rw[if_neg (fun h=>c1 h.2.1),decide_eq_false (fun h=>c1 h.2.1)]
   refine uR1 (uI @d0 @d1) ?_;intro K hK
   refine hK _ ?_;clear hK K
   refine uT ?_
   repeat refine uA ?_
   refine awp_ret ?_;rw[show Tryz.f154.results.toList=[.tmp 4, .tmp 5] from rfl];first|refine uRN ?_|exact uRM
theorem pad_sat (n:Int) (m:Nat) (hw:m<=9) (h0:0<=n) (h1:n<10^(m+1)):SatG Tryz.prog tab 110 [] [I n,I (m+1:Nat)] [] (S (strOf (digs n.toNat (m+1)))):=by
 obtain⟨u,rfl⟩:∃u:Nat,n=u:=⟨n.toNat,by omega⟩
 have hu:u<10^(m+1):=by
  have:((u:Nat):Int)<((10^(m+1):Nat):Int):=by push_cast;exact h1
  omega
 have hb:10^(m+1)<=10^10:=Nat.pow_le_pow_right (by decide) (by omega)
 have hu2:u<10000000000:=by
  have:(10:Nat)^10=10000000000:=by decide
  omega
 have hi:=itoa_sat u (by omega) (by omega)
 have e1:Lib.itoa (u:Int)=Lib.decDigits u:=by unfold Lib.itoa;rw[if_neg (by omega)];rfl
 rw[e1] at hi
 have hl:=dec_len hu
 have hr:=repeat_sat [48] (m+1 - (Lib.decDigits u).length) (by omega) (by simp only[List.length_singleton];omega)
 have he:=pad_eq m u hu
 rw[Int.toNat_natCast,<-he]
 refine uFN Tryz.func110 Tryz.ntmps110 ?_;intro w e X hC
 refine uA ?_
 refine uR ?_;intro K hK
 refine callF uTS (hi) uTS uTS uTS ?_;refine uS ?_
 refine hK _ ?_;clear hK K
 have hif:(if 0<((m+1:Nat):Int) - ((Lib.decDigits u).length:Int) then((m+1:Nat):Int) - ((Lib.decDigits u).length:Int) else 0)=((m+1 - (Lib.decDigits u).length:Nat):Int):=by
  split<;>omega
 refine uR1 @hif ?_;intro K hK
 refine⟨by omega,?_⟩
 refine callF uTS (hr) uTS uTS uTS ?_;refine uS ?_
 have hln:=Lib.repeatL_length [48] (m+1 - (Lib.decDigits u).length)
 simp only[List.length_singleton,Nat.mul_one] at hln
 refine⟨by omega,?_⟩
 refine hK _ ?_;clear hK K
 (refine awp_ret (ret1 uRT ?_);try rfl)
open Go.Scr
abbrev Plt.av (p:Plt):AV:= .agg [I p.l,I p.a,I p.s]
theorem pvalid_sat (p:Plt):SatG Tryz.prog tab 105 [] [Plt.av p] [] (B p.ok):=pvalidP_sat p.l p.a p.s
theorem rvalid_sat (p:Plt):SatG Tryz.prog tab 71 [] [Plt.av p] [] (B p.ok):=rvalidP_sat p.l p.a p.s
theorem all_part {s:Bs} (h:s.all digit=true) (i j:Nat):((s.take j).drop i).all digit=true:=all_drop (all_take h j) i
theorem pparse_sat (s:Bs) (hs:s.length<=1000000):SatG Tryz.prog tab 138 [] [S (strOf s)] [] (.tup [Plt.av (pltParse s).1,I (pltParse s).2]):=by
 have hbad:¬(s.length=10/\s.all digit=true)->pltParse s=(P0,3):=fun h=>by unfold pltParse;rw[if_neg h]
 refine uFN Tryz.func138 Tryz.ntmps138 ?_;intro w e X hC
 repeat refine uA ?_
 refine uW ?_;refine condP _ rfl (fun c0=>?_) (fun c0=>?_)
 ·rw[hbad (fun h=>c0 (by omega))]
  repeat refine uA ?_
  refine awp_ret ?_;rw[show Tryz.f138.results.toList=[.cell 2 24, .tmp 3] from rfl];first|refine uRN ?_|exact uRM
  rfl
 ·have c0:s.length=10:=by omega
  repeat refine uA ?_
  refine uW ?_
  refine awp_loopW (fun i:Nat×Nat=>⟨[(0,S (strOf s)),(2, .ptO 102 1 0 0 0),(10,I i.2)],[(102,some (1, .box [I 0,I 0,I 0]))],i.1⟩) (fun i=>i.2<=10/\(s.take i.2).all digit=true) (fun i=>10 - i.2) (_,0) ⟨Nat.zero_le _,rfl⟩ (uKF) ?_
  rintro⟨ck,i⟩ ⟨hi,hj⟩
  simp only at hi hj
  repeat refine uA ?_
  refine uW ?_;refine condP _ rfl (fun h=>?_) (fun h=>?_)
  ·have hlt:i<s.length:=by omega
   have hsat:=pdig_sat (s.getD i 0)
   refine uA ?_
   cases c1:digit (s.getD i 0) with
   |true=>
    rw[c1] at hsat
    refine uR ?_;intro K hK
    refine⟨by omega,?_⟩
    refine callF uTS (hsat) uTS uTS uTS ?_;refine uS ?_
    refine hK _ ?_;clear hK K
    refine uF ?_
    repeat refine uA ?_
    refine⟨(_,i+1),⟨by simp only;omega,take_all hlt hj c1⟩,by simp only;omega,uKF⟩
   |false=>
    rw[c1] at hsat
    rw[hbad (fun h=>by have:=not_all hlt c1;rw[h.2] at this;cases this)]
    refine uR ?_;intro K hK
    refine⟨by omega,?_⟩
    refine callF uTS (hsat) uTS uTS uTS ?_;refine uS ?_
    refine hK _ ?_;clear hK K
    refine uT ?_
    repeat refine uA ?_
    refine awp_ret ?_;rw[show Tryz.f138.results.toList=[.cell 2 24, .tmp 3] from rfl];first|refine uRN ?_|exact uRM
    rfl
  ·refine awp_exit ?_
   have:i=s.length:=by omega
   subst this
   rw[List.take_length] at hj
   have h1:=pvalue_sat (s.take 1) (by rw[List.length_take];omega) (all_take hj 1)
   have h2:=pvalue_sat ((s.take 4).drop 1) (by rw[List.length_drop,List.length_take];omega) (all_part hj 1 4)
   have h3:=pvalue_sat (s.drop 4) (by rw[List.length_drop];omega) (all_drop hj 4)
   have h4:=pvalid_sat (pltOf s)
   have hgood:pltParse s=if(pltOf s).ok then(pltOf s,0) else(P0,1):=by unfold pltParse;rw[if_pos ⟨c0,hj⟩]
   rw[hgood]
   refine uD ?_;intro K hK
   refine uH ?_
   refine callF uTS (h1) uTS uTS uTS ?_;refine uS ?_
   refine uH ?_
   refine callF uTS (h2) uTS uTS uTS ?_;refine uS ?_
   refine uH ?_
   refine callF uTS (h3) uTS uTS uTS ?_;refine uS ?_
   refine uH ?_
   refine hK _ ?_;clear hK K
   cases c3:(pltOf s).ok with
   |true=>
    rw[c3] at h4
    refine uR ?_;intro K hK
    refine uH ?_
    refine callF uTS (h4) uTS uTS uTS ?_;refine uS ?_
    refine hK _ ?_;clear hK K
    refine uF ?_
    repeat refine uA ?_
    refine awp_ret ?_;rw[show Tryz.f138.results.toList=[.cell 2 24, .tmp 3] from rfl];first|refine uRN ?_|exact uRM
    rfl
   |false=>
    rw[c3] at h4
    refine uR ?_;intro K hK
    refine uH ?_
    refine callF uTS (h4) uTS uTS uTS ?_;refine uS ?_
    refine hK _ ?_;clear hK K
    refine uT ?_
    repeat refine uA ?_
    refine awp_ret ?_;rw[show Tryz.f138.results.toList=[.cell 2 24, .tmp 3] from rfl];first|refine uRN ?_|exact uRM
    rfl
theorem pltnum_ok {p:Plt} (h:p.ok=true):0<=p.l/\p.l<=9/\1<=p.a/\p.a<=999/\0<=p.s/\p.s<=999999:=of_decide_eq_true h
theorem dig_wrap (n:Nat):IntKind.u8.wrap (48+IntKind.u8.wrap ((n:Int).tmod 10))=((UInt8.ofNat (48+n % 10)).toNat:Nat):=by
 have h1:(n:Int).tmod 10=((n % 10:Nat):Int):=by rw[Int.tmod_eq_emod_of_nonneg (by omega)];rfl
 rw[h1,dig_toNat (by omega),IntKind.wrap_u8,IntKind.wrap_u8]
 omega
theorem digs_head (n:Nat) (j:Nat):digs n (j+1)=UInt8.ofNat (48+n / 10^j % 10)::digs n j:=by
 rw[Nat.add_comm,digs_app j 1]
 rfl
theorem byts_step (N i:Nat) (h:i<10):(byts (List.replicate (10 - i) 0++digs N i)).take (9 - i)++[.lit (.int .u8 ((UInt8.ofNat (48+N / 10^i % 10)).toNat:Nat))]++(byts (List.replicate (10 - i) 0++digs N i)).drop (9 - i+1)=byts (List.replicate (10 - (i+1)) 0++digs N (i+1)):=by
 rw[digs_head,show 10 - (i+1)=9 - i by omega,show 10 - i=(9 - i)+1 by omega,List.replicate_succ']
 simp only[byts,List.map_append,List.append_assoc]
 generalize hA:List.map byteE (List.replicate (9 - i) 0)=A
 have hAl:A.length=9 - i:=by rw[<-hA];simp
 rw[List.take_append_of_le_length (by omega),List.take_of_length_le (by omega)]
 rw[show A++(List.map byteE [0]++List.map byteE (digs N i))=(A++List.map byteE [0])++List.map byteE (digs N i) by simp]
 rw[List.drop_append_of_le_length (by simp[hAl]),List.drop_of_length_le (by simp[hAl])]
 rfl
theorem pformat_sat (p:Plt):SatG Tryz.prog tab 61 [] [Plt.av p] [] (S (strOf p.fmt)):=by
 have h0:=pvalid_sat p
 refine uFN Tryz.func61 Tryz.ntmps61 ?_;intro w e X hC
 repeat refine uA ?_
 cases c0:p.ok with
 |false=>
  have e:p.fmt=[]:=by unfold Plt.fmt;rw[c0];rfl
  rw[c0] at h0
  refine uR ?_;intro K hK
  refine uH ?_
  refine callF uTS (h0) uTS uTS uTS ?_;refine uS ?_
  refine hK _ ?_;clear hK K
  refine uT ?_
  repeat refine uA ?_
  (refine awp_ret (ret1 uRT ?_);try rfl)
  rw[e];rfl
 |true=>
  have hb:=pltnum_ok c0
  have e:p.fmt=digs p.num.toNat 10:=by unfold Plt.fmt;rw[c0];rfl
  have h1:=pnumP_sat p.l p.a p.s ⟨hb.1,hb.2.1⟩ (by omega) (by omega)
  rw[c0] at h0
  refine uR ?_;intro K hK
  refine uH ?_
  refine callF uTS (h0) uTS uTS uTS ?_;refine uS ?_
  refine hK _ ?_;clear hK K
  refine uF ?_
  repeat refine uA ?_
  refine uR ?_;intro K hK
  refine uH ?_
  refine callF uTS (h1) uTS uTS uTS ?_;refine uS ?_
  refine hK _ ?_;clear hK K
  repeat refine uA ?_
  rw[e]
  obtain⟨N,hN⟩:∃N:Nat,p.num=N:=⟨p.num.toNat,by unfold Plt.num;omega⟩
  have hN2:(p.l*1000+p.a)*1000000+p.s=N:=hN
  have hN3:N<10000000000:=by omega
  rw[hN2,hN,Int.toNat_natCast]
  refine uW ?_
  refine awp_loopW (fun i:Nat×Nat=>⟨[(3, .ptO 103 6 0 0 0),(4,I (N / 10^i.2:Nat)),(11,I i.2)],[(103,some (6, .box (byts (List.replicate (10 - i.2) 0++digs N i.2))))],i.1⟩) (fun i=>i.2<=10) (fun i=>10 - i.2) (_,0) (Nat.zero_le _) (.of (Nat.le_refl _) uHF (uWF1 (uI @Nat.pow_zero @Nat.div_one))) ?_
  rintro⟨ck,i⟩ hi
  simp only at hi
  repeat refine uA ?_
  refine uW ?_;refine condP _ rfl (fun h=>?_) (fun h=>?_)
  ·have hw:=dig_wrap (N / 10^i)
   have hx:(9 - (i:Int)).toNat*1=9 - i:=by omega
   have hl:10 - i+(digs N i).length=10:=by rw[digs_length];omega
   have hs:=byts_step N i (by omega)
   have hq:((N / 10^i:Nat):Int).tdiv 10=((N / 10^(i+1):Nat):Int):=by
    rw[Int.tdiv_eq_ediv_of_nonneg (Int.natCast_nonneg _),Nat.pow_succ,<-Nat.div_div_eq_div_mul];rfl
   have hb2:N / 10^i<=N:=Nat.div_le_self _ _
   refine uA ?_
   refine uR1 (uI @hw (uI @hx (uI @hl @hs))) ?_;intro K hK
   refine⟨by omega,by omega,Nat.sub_le _ _,?_⟩
   refine hK _ ?_;clear hK K
   have hq2:IntKind.i64.wrap ((N / 10^(i+1):Nat):Int)=((N / 10^(i+1):Nat):Int):=by
    have:N / 10^(i+1)<=N:=Nat.div_le_self _ _
    generalize N / 10^(i+1)=q at*
    rw[IntKind.wrap_i64];omega
   repeat refine uA1 (uI @hq @hq2) ?_
   refine⟨(_,i+1),by simp only;omega,by simp only;omega,uKF⟩
  ·refine awp_exit ?_
   have:i=10:=by omega
   subst this
   have e2:List.replicate (10 - 10) (0:UInt8)++digs N 10=digs N 10:=rfl
   rw[e2]
   repeat refine uA ?_
   (refine awp_ret (ret1 uRT ?_);try rfl)
open Go.Scr
attribute [go_sem] List.size_toArray List.length_cons List.length_nil
abbrev Flt.av (f:Flt):AV:= .agg [S (strOf f.car),I f.num,S (strOf f.suf),I f.day]
theorem count_step {s:Bs} {i:Nat} (hi:i<s.length):(((s.take (i+1)).countP letter:Nat):Int)=((s.take i).countP letter:Nat)+(if letter (s.getD i 0) then 1 else 0):=by
 rw[take_snoc hi,List.countP_append]
 generalize s.getD i 0=c
 rw[show List.countP letter [c]=if letter c then 1 else 0 by simp[List.countP_cons]]
 split<;>omega
theorem any_count (s:Bs):decide (0<((s.countP letter:Nat):Int))=s.any letter:=by
 cases h:s.any letter with
 |true=>
  obtain⟨x,h1,h2⟩:=List.any_eq_true.1 h
  exact decide_eq_true (by have:=List.countP_pos_iff.2 ⟨x,h1,h2⟩;omega)
 |false=>
  refine decide_eq_false fun h2=>?_
  obtain⟨x,h3,h4⟩:=List.countP_pos_iff.1 (show 0<s.countP letter by omega)
  rw[List.any_eq_false] at h
  exact h x h3 h4
theorem carrier_sat (s:Bs) (hs:s.length<=1000000):SatG Tryz.prog tab 128 [] [S (strOf s)] [] (B (carB s)):=by
 refine uFN Tryz.func128 Tryz.ntmps128 ?_;intro w e X hC
 repeat refine uA ?_
 refine uW ?_;refine condP _ rfl (fun c0=>?_) (fun c0=>?_)
 ·have hc:carB s=false:=by
   unfold carB
   rw[decide_eq_false (show ¬s.length=2 by omega)];rfl
  rw[hc]
  repeat refine uA ?_
  (refine awp_ret (ret1 uRT ?_);try rfl)
 ·have c0:s.length=2:=by omega
  have hc:carB s=(s.all (fun c=>letter c||digit c)&&s.any letter):=by
   unfold carB
   rw[decide_eq_true c0,Bool.true_and]
  rw[hc]
  repeat refine uA ?_
  refine uW ?_
  refine awp_loopW (fun i:Nat×Nat=>⟨[(0,S (strOf s)),(3,I ((s.take i.2).countP letter:Nat)),(9,I s.length),(10,I i.2)],[],i.1⟩) (fun i=>i.2<=s.length/\(s.take i.2).all (fun c=>letter c||digit c)=true) (fun i=>s.length - i.2) (_,0) ⟨Nat.zero_le _,rfl⟩ (uKF) ?_
  rintro⟨ck,i⟩ ⟨hi,hj⟩
  simp only at hi hj
  have hcnt:(s.take i).countP letter<=i:=Nat.le_trans List.countP_le_length (by rw[List.length_take];omega)
  repeat refine uA ?_
  refine uW ?_;refine condP _ rfl (fun h=>?_) (fun h=>?_)
  ·have hlt:i<s.length:=by omega
   have h1:=flet_sat (s.getD i 0)
   have h2:=fdig_sat (s.getD i 0)
   have h3:=count_step hlt
   refine uA ?_
   cases c1:letter (s.getD i 0) with
   |true=>
    rw[c1] at h1
    rw[if_pos c1] at h3
    refine uR ?_;intro K hK
    refine uH ?_
    refine callF uTS (h1) uTS uTS uTS ?_;refine uS ?_
    refine hK _ ?_;clear hK K
    refine uT ?_
    repeat refine uA ?_
    refine⟨(_,i+1),⟨by simp only;omega,take_all hlt hj (by simp only[c1,Bool.true_or])⟩,by simp only;omega, .of (Nat.le_refl _) uHF (uWF1 @h3)⟩
   |false=>
    rw[c1] at h1
    rw[if_neg (by rw[c1];decide),Int.add_zero] at h3
    refine uR ?_;intro K hK
    refine uH ?_
    refine callF uTS (h1) uTS uTS uTS ?_;refine uS ?_
    refine hK _ ?_;clear hK K
    refine uF ?_
    cases c2:digit (s.getD i 0) with
    |true=>
     rw[c2] at h2
     refine uR ?_;intro K hK
     refine uH ?_
     refine callF uTS (h2) uTS uTS uTS ?_;refine uS ?_
     refine hK _ ?_;clear hK K
     refine uF ?_
     repeat refine uA ?_
     refine⟨(_,i+1),⟨by simp only;omega,take_all hlt hj (by simp only[c2,Bool.or_true])⟩,by simp only;omega, .of (Nat.le_refl _) uHF (uWF1 @h3)⟩
    |false=>
     rw[c2] at h2
     refine uR ?_;intro K hK
     refine uH ?_
     refine callF uTS (h2) uTS uTS uTS ?_;refine uS ?_
     refine hK _ ?_;clear hK K
     refine uT ?_
     repeat refine uA ?_
     (refine awp_ret (ret1 uRT ?_);try rfl)
     rw[not_all hlt (by simp only[c1,c2,Bool.or_false])];rfl
  ·refine awp_exit ?_
   have:i=s.length:=by omega
   subst this
   rw[List.take_length] at hj
   rw[List.take_length,hj,Bool.true_and,<-any_count]
   repeat refine uA ?_
   (refine awp_ret (ret1 uRT ?_);try rfl)
theorem fvalid_sat (f:Flt) (h1:f.car.length<=1000000) (h2:f.suf.length<=1000000):SatG Tryz.prog tab 108 [] [Flt.av f] [] (B f.ok):=by
 have g1:=carrier_sat f.car h1
 have g2:=letters_sat f.suf h2
 unfold Flt.ok
 refine uFN Tryz.func108 Tryz.ntmps108 ?_;intro w e X hC
 repeat refine uA ?_
 cases c1:carB f.car with
 |false=>
  rw[c1] at g1
  refine uR ?_;intro K hK
  refine uH ?_
  refine callF uTS (g1) uTS uTS uTS ?_;refine uS ?_
  refine hK _ ?_;clear hK K
  (refine awp_ret (ret1 uRT ?_);try rfl)
 |true=>
  rw[c1] at g1
  by_cases d1:1<=f.num
  ·have e1:decide (1<=f.num)=true:=decide_eq_true d1
   by_cases d2:f.num<=9999
   ·have e2:decide (f.num<=9999)=true:=decide_eq_true d2
    rw[decide_eq_true (show 1<=f.num/\f.num<=9999 from⟨d1,d2⟩)]
    cases c2:sufB f.suf with
    |false=>
     rw[c2] at g2
     refine uR1 (uI @e1 @e2) ?_;intro K hK
     refine uH ?_
     refine callF uTS (g1) uTS uTS uTS ?_;refine uS ?_
     first|refine uS1 (uI @e1 @e2) ?_|exact uX1 (uI @e1 @e2)
     refine uH ?_
     refine callF uTS (g2) uTS uTS uTS ?_;refine uS ?_
     refine hK _ ?_;clear hK K
     (refine awp_ret (ret1 uRT ?_);try rfl)
    |true=>
     rw[c2] at g2
     by_cases d3:0<=f.day
     ·have e3:decide (0<=f.day)=true:=decide_eq_true d3
      refine uR1 (uI @e1 (uI @e2 @e3)) ?_;intro K hK
      refine uH ?_
      refine callF uTS (g1) uTS uTS uTS ?_;refine uS ?_
      first|refine uS1 (uI @e1 (uI @e2 @e3)) ?_|exact uX1 (uI @e1 (uI @e2 @e3))
      refine uH ?_
      refine callF uTS (g2) uTS uTS uTS ?_;refine uS ?_
      first|refine uS1 (uI @e1 (uI @e2 @e3)) ?_|exact uX1 (uI @e1 (uI @e2 @e3))
      refine uH ?_
      refine hK _ ?_;clear hK K
      (refine awp_ret (ret1 uRT ?_);try rfl)
      rw[decide_eq_decide.2 (show(0<=f.day/\f.day<=99)↔f.day<=99 from⟨fun h=>h.2,fun h=>⟨d3,h⟩⟩)];rfl
     ·have e3:decide (0<=f.day)=false:=decide_eq_false d3
      refine uR1 (uI @e1 (uI @e2 @e3)) ?_;intro K hK
      refine uH ?_
      refine callF uTS (g1) uTS uTS uTS ?_;refine uS ?_
      first|refine uS1 (uI @e1 (uI @e2 @e3)) ?_|exact uX1 (uI @e1 (uI @e2 @e3))
      refine uH ?_
      refine callF uTS (g2) uTS uTS uTS ?_;refine uS ?_
      first|refine uS1 (uI @e1 (uI @e2 @e3)) ?_|exact uX1 (uI @e1 (uI @e2 @e3))
      refine uH ?_
      refine hK _ ?_;clear hK K
      (refine awp_ret (ret1 uRT ?_);try rfl)
      rw[decide_eq_false (show ¬(0<=f.day/\f.day<=99) from fun h=>d3 h.1)];rfl
   ·have e2:decide (f.num<=9999)=false:=decide_eq_false d2
    rw[decide_eq_false (show ¬(1<=f.num/\f.num<=9999) from fun h=>d2 h.2)]
    refine uR1 (uI @e1 @e2) ?_;intro K hK
    refine uH ?_
    refine callF uTS (g1) uTS uTS uTS ?_;refine uS ?_
    first|refine uS1 (uI @e1 @e2) ?_|exact uX1 (uI @e1 @e2)
    refine uH ?_
    refine hK _ ?_;clear hK K
    (refine awp_ret (ret1 uRT ?_);try rfl)
  ·have e1:decide (1<=f.num)=false:=decide_eq_false d1
   rw[decide_eq_false (show ¬(1<=f.num/\f.num<=9999) from fun h=>d1 h.1)]
   refine uR1 @e1 ?_;intro K hK
   refine uH ?_
   refine callF uTS (g1) uTS uTS uTS ?_;refine uS ?_
   first|refine uS1 @e1 ?_|exact uX1 @e1
   refine uH ?_
   refine hK _ ?_;clear hK K
   (refine awp_ret (ret1 uRT ?_);try rfl)
theorem fok {f:Flt} (h:f.ok=true):1<=f.num/\f.num<=9999/\0<=f.day/\f.day<=99/\f.car.length=2/\f.suf.length<=1:=by
 simp only[Flt.ok,carB,sufB,Bool.and_eq_true,decide_eq_true_eq] at h
 obtain⟨⟨⟨⟨⟨h1,_⟩,_⟩,h2⟩,h3,_⟩,h4⟩:=h
 exact⟨h2.1,h2.2,h4.1,h4.2,h1,h3⟩
theorem fdes_sat (f:Flt) (h1:f.car.length<=1000000) (h2:f.suf.length<=1000000):SatG Tryz.prog tab 109 [] [Flt.av f] [] (S (strOf f.des)):=by
 have h0:=fvalid_sat f h1 h2
 refine uFN Tryz.func109 Tryz.ntmps109 ?_;intro w e X hC
 repeat refine uA ?_
 cases c0:f.ok with
 |false=>
  have e:f.des=[]:=by unfold Flt.des;rw[c0];rfl
  rw[c0] at h0
  rw[e]
  refine uR ?_;intro K hK
  refine uH ?_
  refine callF uTS (h0) uTS uTS uTS ?_;refine uS ?_
  refine hK _ ?_;clear hK K
  refine uT ?_
  repeat refine uA ?_
  (refine awp_ret (ret1 uRT ?_);try rfl)
 |true=>
  have hb:=fok c0
  have g:=pad_sat f.num 3 (by omega) (by omega) (by omega)
  have e:f.des=f.car++digs f.num.toNat 4++f.suf:=by unfold Flt.des;rw[c0];rfl
  have hl:=digs_length 4 f.num.toNat
  rw[c0] at h0
  rw[e]
  refine uR ?_;intro K hK
  refine uH ?_
  refine callF uTS (h0) uTS uTS uTS ?_;refine uS ?_
  refine hK _ ?_;clear hK K
  refine uF ?_
  refine uD ?_;intro K hK
  refine uH ?_
  refine callF uTS (g) uTS uTS uTS ?_;refine uS ?_
  refine uH ?_
  refine hK _ ?_;clear hK K
  (refine awp_ret (ret1 uRT ?_);try rfl)
theorem fformat_sat (f:Flt) (h1:f.car.length<=1000000) (h2:f.suf.length<=1000000):SatG Tryz.prog tab 65 [] [Flt.av f] [] (S (strOf f.fmt)):=by
 have h0:=fvalid_sat f h1 h2
 have h5:=fdes_sat f h1 h2
 refine uFN Tryz.func65 Tryz.ntmps65 ?_;intro w e X hC
 repeat refine uA ?_
 cases c0:f.ok with
 |false=>
  have e:f.fmt=[]:=by unfold Flt.fmt;rw[c0];rfl
  rw[c0] at h0
  rw[e]
  refine uR ?_;intro K hK
  refine uH ?_
  refine callF uTS (h0) uTS uTS uTS ?_;refine uS ?_
  refine hK _ ?_;clear hK K
  refine uT ?_
  repeat refine uA ?_
  (refine awp_ret (ret1 uRT ?_);try rfl)
 |true=>
  have hb:=fok c0
  have g:=pad_sat f.day 1 (by omega) (by omega) (by omega)
  have hl:=digs_length 4 f.num.toNat
  have hl2:=digs_length 2 f.day.toNat
  have e0:f.des=f.car++digs f.num.toNat 4++f.suf:=by unfold Flt.des;rw[c0];rfl
  have e:f.fmt=f.car++digs f.num.toNat 4++f.suf++[47]++digs f.day.toNat 2:=by unfold Flt.fmt;rw[c0];rfl
  rw[e0] at h5
  rw[c0] at h0
  rw[e]
  refine uR ?_;intro K hK
  refine uH ?_
  refine callF uTS (h0) uTS uTS uTS ?_;refine uS ?_
  refine hK _ ?_;clear hK K
  refine uF ?_
  refine uD ?_;intro K hK
  refine uH ?_
  refine callF uTS (h5) uTS uTS uTS ?_;refine uS ?_
  refine uH ?_
  refine callF uTS (g) uTS uTS uTS ?_;refine uS ?_
  refine uH ?_
  refine hK _ ?_;clear hK K
  (refine awp_ret (ret1 uRT ?_);try rfl)
theorem fparse_sat (s:Bs) (hs:s.length<=1000000):SatG Tryz.prog tab 139 [] [S (strOf s)] [] (.tup [Flt.av (fltParse s).1,I (fltParse s).2]):=by
 have hbad:fltShape s=false->fltParse s=(F0,3):=fun h=>by unfold fltParse;rw[h];rfl
 refine uFN Tryz.func139 Tryz.ntmps139 ?_;intro w e X hC
 repeat refine uA ?_
 refine awp_seq ?_
 refine awp_merge (fun q:Nat=>⟨[(0,S (strOf s)),(2, .ptO 102 1 0 0 0),(3,I 0)],[(102,some (1, .box [.lit (.string .empty),I 0, .lit (.string .empty),I 0]))],q⟩) (fun _=>s.length=9\/s.length=10) ?_ ?_
 ·by_cases c9:s.length=9
  ·have e1:(decide ¬(s.length:Int)=9)=false:=decide_eq_false (by omega)
   repeat refine uA1 @e1 ?_
   refine uF ?_
   refine uW ?_
   refine⟨_, .inl c9,uKF⟩
  ·have e1:(decide ¬(s.length:Int)=9)=true:=decide_eq_true (by omega)
   by_cases c10:s.length=10
   ·have e2:(decide ¬(s.length:Int)=10)=false:=decide_eq_false (by omega)
    repeat refine uA1 (uI @e1 @e2) ?_
    refine uF ?_
    refine uW ?_
    refine⟨_, .inr c10,uKF⟩
   ·have e2:(decide ¬(s.length:Int)=10)=true:=decide_eq_true (by omega)
    have hf:fltShape s=false:=by unfold fltShape;rw[decide_eq_false (by omega)];rfl
    rw[hbad hf]
    repeat refine uA1 (uI @e1 @e2) ?_
    refine uT ?_
    repeat refine uA ?_
    refine awp_ret ?_;rw[show Tryz.f139.results.toList=[.cell 2 26, .tmp 3] from rfl];first|refine uRN ?_|exact uRM
    rfl
 intro ck c0
 have d1:decide ((s.length:Int)=9)=decide (s.length=9):=decide_eq_decide.2 (by omega)
 have d2:decide ((s.length:Int)=10)=decide (s.length=10):=decide_eq_decide.2 (by omega)
 have hlen:s.length<=10:=by omega
 have hlen9:9<=s.length:=by omega
 have l1:((s.take 6).drop 2).length=4:=by rw[List.length_drop,List.length_take];omega
 have l2:(s.drop (s.length - 2)).length=2:=by rw[List.length_drop];omega
 have l3:(s.take 2).length=2:=by rw[List.length_take];omega
 have l4:((s.take (s.length - 3)).drop 6).length<=1:=by rw[List.length_drop,List.length_take];omega
 have g1:=fdigits_sat ((s.take 6).drop 2) 4 (by omega)
 have g2:=fdigits_sat (s.drop (s.length - 2)) 2 (by omega)
 have g3:=carrier_sat (s.take 2) (by omega)
 have g4:=letters_sat ((s.take (s.length - 3)).drop 6) (by omega)
 have n1:(s.take 6).drop 2≠[]:=fun h=>by rw[h] at l1;simp at l1
 have n2:s.drop (s.length - 2)≠[]:=fun h=>by rw[h] at l2;simp at l2
 have b1:(s.length:Int) - 3=((s.length - 3:Nat):Int):=by omega
 have b2:((s.length - 3:Nat):Int)+1=((s.length - 2:Nat):Int):=by omega
 have hsh:fltShape s=(decide (s.getD (s.length - 3) 0=47)&&carB (s.take 2)&&((s.take 6).drop 2).all digit&&sufB ((s.take (s.length - 3)).drop 6)&&(s.drop (s.length - 2)).all digit):=by
  unfold fltShape
  rw[decide_eq_true c0,Bool.true_and]
 have q1:decide ((s.take 6).drop 2≠[]/\((s.take 6).drop 2).length<=4/\((s.take 6).drop 2).all digit=true)=((s.take 6).drop 2).all digit:=by
  cases h:((s.take 6).drop 2).all digit with
  |true=>exact decide_eq_true ⟨n1,by omega,rfl⟩
  |false=>exact decide_eq_false fun h'=>by cases h'.2.2
 have q2:decide (s.drop (s.length - 2)≠[]/\(s.drop (s.length - 2)).length<=2/\(s.drop (s.length - 2)).all digit=true)=(s.drop (s.length - 2)).all digit:=by
  cases h:(s.drop (s.length - 2)).all digit with
  |true=>exact decide_eq_true ⟨n2,by omega,rfl⟩
  |false=>exact decide_eq_false fun h'=>by cases h'.2.2
 have q3:((s.take 6).drop 2).all digit=true->(if(s.take 6).drop 2≠[]/\((s.take 6).drop 2).length<=4/\((s.take 6).drop 2).all digit=true then((numL 0 ((s.take 6).drop 2):Nat):Int) else 0)=(numL 0 ((s.take 6).drop 2):Nat):=fun h=>if_pos ⟨n1,by omega,h⟩
 have q4:(s.drop (s.length - 2)).all digit=true->(if s.drop (s.length - 2)≠[]/\(s.drop (s.length - 2)).length<=2/\(s.drop (s.length - 2)).all digit=true then((numL 0 (s.drop (s.length - 2)):Nat):Int) else 0)=(numL 0 (s.drop (s.length - 2)):Nat):=fun h=>if_pos ⟨n2,by omega,h⟩
 rw[q1] at g1
 rw[q2] at g2
 generalize (if(s.take 6).drop 2≠[]/\((s.take 6).drop 2).length<=4/\((s.take 6).drop 2).all digit=true then((numL 0 ((s.take 6).drop 2):Nat):Int) else 0)=v4 at*
 generalize (if s.drop (s.length - 2)≠[]/\(s.drop (s.length - 2)).length<=2/\(s.drop (s.length - 2)).all digit=true then((numL 0 (s.drop (s.length - 2)):Nat):Int) else 0)=v2 at*
 have hnum:(fltOf s).num=(numL 0 ((s.take 6).drop 2):Nat):=rfl
 have hgood:fltShape s=true->fltParse s=if(fltOf s).num=0 then(F0,1) else(fltOf s,0):=fun h=>by unfold fltParse;rw[h];rfl
 have b47:(decide ¬(((s.getD (s.length - 3) 0).toNat:Nat):Int)=47)=!decide (s.getD (s.length - 3) 0=47):=by
  have:(((s.getD (s.length - 3) 0).toNat:Nat):Int)=47↔s.getD (s.length - 3) 0=47:=by
   constructor
   ·intro h
    exact UInt8.toNat_inj.1 (by show _=47;omega)
   ·intro h;rw[h];rfl
  rw[<-decide_not]
  exact decide_eq_decide.2 (not_congr this)
 repeat refine uA1 @b1 ?_
 refine uR ?_;intro K hK
 refine uH ?_
 refine callF uTS (g1) uTS uTS uTS ?_;refine uS ?_
 refine hK _ ?_;clear hK K
 refine uR1 @b2 ?_;intro K hK
 refine uH ?_
 refine callF uTS (g2) uTS uTS uTS ?_;refine uS ?_
 refine hK _ ?_;clear hK K
 cases c1:carB (s.take 2) with
 |false=>
  rw[c1] at g3
  rw[hbad (by rw[hsh,c1];simp only[Bool.and_false,Bool.false_and])]
  refine uR ?_;intro K hK
  refine uH ?_
  refine callF uTS (g3) uTS uTS uTS ?_;refine uS ?_
  refine hK _ ?_;clear hK K
  refine uT ?_
  refine uT ?_
  repeat refine uA ?_
  refine awp_ret ?_;rw[show Tryz.f139.results.toList=[.cell 2 26, .tmp 3] from rfl];first|refine uRN ?_|exact uRM
  rfl
 |true=>
  rw[c1] at g3
  refine uR ?_;intro K hK
  refine uH ?_
  refine callF uTS (g3) uTS uTS uTS ?_;refine uS ?_
  refine hK _ ?_;clear hK K
  refine uF ?_
  cases c2:((s.take 6).drop 2).all digit with
  |false=>
   rw[hbad (by rw[hsh,c2];simp only[Bool.and_false,Bool.false_and])]
   repeat refine uA1 @c2 ?_
   refine uT ?_
   refine uT ?_
   repeat refine uA ?_
   refine awp_ret ?_;rw[show Tryz.f139.results.toList=[.cell 2 26, .tmp 3] from rfl];first|refine uRN ?_|exact uRM
   rfl
  |true=>
   repeat refine uA1 @c2 ?_
   refine uF ?_
   cases c3:(s.drop (s.length - 2)).all digit with
   |false=>
    rw[hbad (by rw[hsh,c3];simp only[Bool.and_false,Bool.false_and])]
    repeat refine uA1 @c3 ?_
    refine uT ?_
    refine uT ?_
    repeat refine uA ?_
    refine awp_ret ?_;rw[show Tryz.f139.results.toList=[.cell 2 26, .tmp 3] from rfl];first|refine uRN ?_|exact uRM
    rfl
   |true=>
    repeat refine uA1 @c3 ?_
    refine uF ?_
    cases c4:decide (s.getD (s.length - 3) 0=47) with
    |false=>
     rw[hbad (by rw[hsh,c4];simp only[Bool.and_false,Bool.false_and])]
     rw[c4] at b47
     repeat refine uA1 @b47 ?_
     refine uT ?_
     refine uT ?_
     repeat refine uA ?_
     refine awp_ret ?_;rw[show Tryz.f139.results.toList=[.cell 2 26, .tmp 3] from rfl];first|refine uRN ?_|exact uRM
     rfl
    |true=>
     rw[c4] at b47
     repeat refine uA1 @b47 ?_
     refine uF ?_
     cases c5:sufB ((s.take (s.length - 3)).drop 6) with
     |false=>
      rw[c5] at g4
      rw[hbad (by rw[hsh,c5];simp only[Bool.and_false,Bool.false_and])]
      refine uR ?_;intro K hK
      refine uH ?_
      refine callF uTS (g4) uTS uTS uTS ?_;refine uS ?_
      refine hK _ ?_;clear hK K
      refine uT ?_
      repeat refine uA ?_
      refine awp_ret ?_;rw[show Tryz.f139.results.toList=[.cell 2 26, .tmp 3] from rfl];first|refine uRN ?_|exact uRM
      rfl
     |true=>
      rw[c5] at g4
      rw[hgood (by rw[hsh,c1,c2,c3,c4,c5];rfl),hnum,<-q3 c2]
      have hv:=q4 c3
      refine uR ?_;intro K hK
      refine uH ?_
      refine callF uTS (g4) uTS uTS uTS ?_;refine uS ?_
      refine hK _ ?_;clear hK K
      refine uF ?_
      repeat refine uA ?_
      refine uW ?_;refine condP _ rfl (fun cz=>?_) (fun cz=>?_)
      ·rw[if_pos cz]
       repeat refine uA ?_
       refine awp_ret ?_;rw[show Tryz.f139.results.toList=[.cell 2 26, .tmp 3] from rfl];first|refine uRN ?_|exact uRM
       rfl
      ·rw[if_neg cz]
       have e5:fltOf s=⟨s.take 2,v4,(s.take (s.length - 3)).drop 6,v2⟩:=by rw[q3 c2,hv];rfl
       rw[e5]
       refine uD ?_;intro K hK
       refine uH ?_
       refine hK _ ?_;clear hK K
       refine awp_ret ?_;rw[show Tryz.f139.results.toList=[.cell 2 26, .tmp 3] from rfl];first|refine uRN ?_|exact uRM
open Go.Scr
abbrev _root_.Go.Scr.Flaw.av (x:Flaw):AV:= .agg [I x.k,I x.n,I x.w]
def flaws (l:List Flaw):List AV:=l.map Flaw.av
theorem flaws_length (l:List Flaw):(flaws l).length=l.length:=by simp[flaws]
theorem flaws_getD {l:List Flaw} {i:Nat} (h:i<l.length):(flaws l).getD i .bad=(l.getD i default).av:=by simp[flaws,h]
theorem PE_flaws (l:List Flaw):PE (flaws l)=True:=by
 refine eq_true fun e he c hc=>?_
 simp only[flaws,List.mem_map] at he
 obtain⟨x,_,rfl⟩:=he
 simp only[AV.cells,List.mem_cons,List.not_mem_nil,or_false] at hc
 rcases hc with rfl|rfl|rfl<;>first|trivial|rfl
theorem all_flaws {l:List Flaw}:(∀y∈flaws l,y.cells.length=3)=True:=by
 refine eq_true fun e he=>?_
 simp only[flaws,List.mem_map] at he
 obtain⟨x,_,rfl⟩:=he
 rfl
theorem flaws_snoc {l:List Flaw} {k:Int} {n:Int} {w:Int}:flaws l++[.agg [.lit (.int .i64 k), .lit (.int .i64 n), .lit (.int .i64 w)]]=flaws (l++[⟨k,n,w⟩]):=by simp[flaws]
theorem flaws_set {l:List Flaw} {i:Nat} {k:Int} {n:Int} {w:Int}:(flaws l).set i (.agg [.lit (.int .i64 k), .lit (.int .i64 n), .lit (.int .i64 w)])=flaws (l.set i ⟨k,n,w⟩):=by simp[flaws,List.map_set]
theorem flaws_lits {l:List Flaw}:(∀e∈flaws l,∀c∈e.cells,isLit c)=True:=by
 refine eq_true fun e he c hc=>?_
 simp only[flaws,List.mem_map] at he
 obtain⟨x,_,rfl⟩:=he
 simp only[AV.cells,List.mem_cons,List.not_mem_nil,or_false] at hc
 rcases hc with rfl|rfl|rfl<;>first|trivial|rfl
theorem trT_flaws (L:List Nat) (l:List Flaw):(∀e∈flaws l,∀c∈e.cells,trA true L c)=True:=by
 refine eq_true fun e he c hc=>?_
 simp only[flaws,List.mem_map] at he
 obtain⟨x,_,rfl⟩:=he
 simp only[AV.cells,List.mem_cons,List.not_mem_nil,or_false] at hc
 rcases hc with rfl|rfl|rfl<;>first|trivial|rfl
attribute [go_sem] flaws_length PE_flaws all_flaws flaws_snoc flaws_set flaws_lits trT_flaws
abbrev _root_.Go.Scr.Acx.av (x:Acx):AV:= .agg [I x.k, .sl (flaws x.mv) false, .sl (flaws x.gl) false,B x.lost,I x.plt.l,I x.plt.a,I x.plt.s,I x.node,I x.img,B x.clr,S (strOf x.txt),I x.rev.k,I x.rev.amt,S (strOf x.rev.flt.car),I x.rev.flt.num,S (strOf x.rev.flt.suf),I x.rev.flt.day,I x.dev,I x.con,S (strOf x.flt.car),I x.flt.num,S (strOf x.flt.suf),I x.flt.day]
def acts (l:List Acx):List AV:=l.map Acx.av
theorem acts_length (l:List Acx):(acts l).length=l.length:=by simp[acts]
theorem acts_getD {l:List Acx} {i:Nat} (h:i<l.length):(acts l).getD i .bad=(l.getD i default).av:=by simp[acts,h]
theorem PE_acts (l:List Acx):PE (acts l)=True:=by
 refine eq_true fun e he c hc=>?_
 simp only[acts,List.mem_map] at he
 obtain⟨x,_,rfl⟩:=he
 simp only[AV.cells,List.mem_cons,List.not_mem_nil,or_false] at hc
 rcases hc with rfl|rfl|rfl|rfl|rfl|rfl|rfl|rfl|rfl|rfl|rfl|rfl|rfl|rfl|rfl|rfl|rfl|rfl|rfl|rfl|rfl|rfl|rfl<;>first|trivial|rfl
theorem all_acts {l:List Acx}:(∀y∈acts l,y.cells.length=23)=True:=by
 refine eq_true fun e he=>?_
 simp only[acts,List.mem_map] at he
 obtain⟨x,_,rfl⟩:=he
 rfl
attribute [go_sem] acts_length PE_acts all_acts
theorem eqL_getD {α:Type} {a b:List α} {d:α} (h:a.length=b.length) (h':∀j,j<a.length->a.getD j d=b.getD j d):a=b:=by
 refine List.ext_getElem h fun j h1 h2=>?_
 have:=h' j h1
 simpa[h1,h2] using this
theorem flaw_eq (f g:Flaw):f=g↔f.k=g.k/\f.n=g.n/\f.w=g.w:=by
 cases f;cases g;simp
theorem flaw_beq (f g:Flaw):(decide (f.k=g.k)&&(decide (f.n=g.n)&&(decide (f.w=g.w)&&true)))=decide (f=g):=by
 rw[Bool.and_true,decide_eq_decide.2 (flaw_eq f g),Bool.decide_and,Bool.decide_and]
theorem plt_beq (f g:Plt):(decide (f.l=g.l)&&(decide (f.a=g.a)&&(decide (f.s=g.s)&&true)))=decide (f=g):=by
 have h:f=g↔f.l=g.l/\f.a=g.a/\f.s=g.s:=by cases f;cases g;simp
 rw[Bool.and_true,decide_eq_decide.2 h,Bool.decide_and,Bool.decide_and]
theorem flt_beq (f g:Flt):(decide (f.car=g.car)&&(decide (f.num=g.num)&&(decide (f.suf=g.suf)&&(decide (f.day=g.day)&&true))))=decide (f=g):=by
 have h:f=g↔f.car=g.car/\f.num=g.num/\f.suf=g.suf/\f.day=g.day:=by cases f;cases g;simp
 rw[Bool.and_true,decide_eq_decide.2 h,Bool.decide_and,Bool.decide_and,Bool.decide_and]
theorem rev_beq (f g:Rev):(decide (f.k=g.k)&&(decide (f.amt=g.amt)&&(decide (f.flt.car=g.flt.car)&&(decide (f.flt.num=g.flt.num)&&(decide (f.flt.suf=g.flt.suf)&&(decide (f.flt.day=g.flt.day)&&true))))))=decide (f=g):=by
 have h:f=g↔f.k=g.k/\f.amt=g.amt/\f.flt=g.flt:=by cases f;cases g;simp
 rw[flt_beq,decide_eq_decide.2 h,Bool.decide_and,Bool.decide_and]
theorem equal_sat (a b:List Flaw) (ha:a.length<=1000000) (hb:b.length<=1000000):SatG Tryz.prog tab 103 [] [.sl (flaws a) false, .sl (flaws b) false] [] (B (decide (a=b))):=by
 have hno:¬a=b->B (decide (a=b))=B false:=fun h=>by rw[decide_eq_false h]
 refine uFN Tryz.func103 Tryz.ntmps103 ?_;intro w e X hC
 refine uA ?_
 refine uA ?_
 refine uW ?_;refine condP _ rfl (fun c1=>?_) (fun c1=>?_)
 ·rw[hno fun h=>c1 (by rw[h])]
  repeat refine uA ?_
  (refine awp_ret (ret1 uRT ?_);try rfl)
 ·have c1:a.length=b.length:=by omega
  refine uA ?_
  refine uW ?_
  refine awp_loopW (fun i:Nat×Nat=>⟨[(0, .sl (flaws a) false),(1, .sl (flaws b) false),(12,I a.length),(13,I i.2)],[],i.1⟩) (fun i=>i.2<=a.length/\∀j,j<i.2->a.getD j default=b.getD j default) (fun i=>a.length - i.2) (_,0) ⟨Nat.zero_le _,fun j hj=>absurd hj (Nat.not_lt_zero _)⟩ (uKF) ?_
  rintro⟨ck,i⟩ ⟨hi,hj⟩
  simp only at hi hj
  refine uA ?_
  refine uW ?_;refine condP _ rfl (fun h=>?_) (fun h=>?_)
  ·have hlt:i<a.length:=by omega
   have hlt2:i<b.length:=by omega
   refine uA ?_
   have he:=flaw_beq (a.getD i default) (b.getD i default)
   by_cases c3:a.getD i default=b.getD i default
   ·rw[decide_eq_true c3] at he
    refine uK1 (uI (flaws_getD hlt) (uI (flaws_getD hlt2) @he)) ?_
    refine uF ?_
    repeat refine uA ?_
    refine⟨(_,i+1),⟨by simp only;omega,fun j hj'=>?_⟩,by simp only;omega,uKF⟩
    by_cases hji:j=i
    ·subst hji;exact c3
    ·exact hj j (by simp only at hj';omega)
   ·rw[decide_eq_false c3] at he
    refine uK1 (uI (flaws_getD hlt) (uI (flaws_getD hlt2) @he)) ?_
    refine uT ?_
    rw[hno fun h=>c3 (by rw[h])]
    repeat refine uA ?_
    (refine awp_ret (ret1 uRT ?_);try rfl)
  ·refine awp_exit ?_
   have hs:a=b:=eqL_getD c1 fun j h=>hj j (by omega)
   rw[decide_eq_true hs]
   repeat refine uA ?_
   (refine awp_ret (ret1 uRT ?_);try rfl)
open Go.Scr
theorem same_0 (a b:Acx) (hamv:a.mv.length<=1000000) (hbmv:b.mv.length<=1000000) (hagl:a.gl.length<=1000000) (hbgl:b.gl.length<=1000000) (h0:¬a.k=b.k):SatG Tryz.prog tab 58 [] [a.av,b.av] [] (B false):=by
 have d0:decide (a.k=b.k)=false:=decide_eq_false h0
 refine uFN Tryz.func58 Tryz.ntmps58 ?_;intro w e X hC
 refine uA ?_
 refine uR1 (uI @d0 @List.append_eq.{0}) ?_;intro K hK
 refine hK _ ?_;clear hK K
 (refine awp_ret (ret1 uRT ?_);try rfl)
theorem same_1 (a b:Acx) (hamv:a.mv.length<=1000000) (hbmv:b.mv.length<=1000000) (hagl:a.gl.length<=1000000) (hbgl:b.gl.length<=1000000) (h0:a.k=b.k) (h1:¬a.mv=b.mv):SatG Tryz.prog tab 58 [] [a.av,b.av] [] (B false):=by
 have d0:decide (a.k=b.k)=true:=decide_eq_true h0
 have g1:=equal_sat a.mv b.mv hamv hbmv
 rw[decide_eq_false h1] at g1
 refine uFN Tryz.func58 Tryz.ntmps58 ?_;intro w e X hC
 refine uA ?_
 refine uR1 (uI @d0 @List.append_eq.{0}) ?_;intro K hK
 refine callF uTS (g1) uTS uTS uTS ?_;refine uS ?_
 refine hK _ ?_;clear hK K
 (refine awp_ret (ret1 uRT ?_);try rfl)
theorem same_2 (a b:Acx) (hamv:a.mv.length<=1000000) (hbmv:b.mv.length<=1000000) (hagl:a.gl.length<=1000000) (hbgl:b.gl.length<=1000000) (h0:a.k=b.k) (h1:a.mv=b.mv) (h2:¬a.gl=b.gl):SatG Tryz.prog tab 58 [] [a.av,b.av] [] (B false):=by
 have d0:decide (a.k=b.k)=true:=decide_eq_true h0
 have g1:=equal_sat a.mv b.mv hamv hbmv
 rw[decide_eq_true h1] at g1
 have g2:=equal_sat a.gl b.gl hagl hbgl
 rw[decide_eq_false h2] at g2
 refine uFN Tryz.func58 Tryz.ntmps58 ?_;intro w e X hC
 refine uA ?_
 refine uR1 (uI @d0 @List.append_eq.{0}) ?_;intro K hK
 refine callF uTS (g1) uTS uTS uTS ?_;refine uS ?_
 refine callF uTS (g2) uTS uTS uTS ?_;refine uS ?_
 refine hK _ ?_;clear hK K
 (refine awp_ret (ret1 uRT ?_);try rfl)
theorem same_3 (a b:Acx) (hamv:a.mv.length<=1000000) (hbmv:b.mv.length<=1000000) (hagl:a.gl.length<=1000000) (hbgl:b.gl.length<=1000000) (h0:a.k=b.k) (h1:a.mv=b.mv) (h2:a.gl=b.gl) (h3:¬a.lost=b.lost):SatG Tryz.prog tab 58 [] [a.av,b.av] [] (B false):=by
 have d0:decide (a.k=b.k)=true:=decide_eq_true h0
 have g1:=equal_sat a.mv b.mv hamv hbmv
 rw[decide_eq_true h1] at g1
 have g2:=equal_sat a.gl b.gl hagl hbgl
 rw[decide_eq_true h2] at g2
 have d3:(a.lost==b.lost)=false:=beq_eq_false_iff_ne.2 h3
 refine uFN Tryz.func58 Tryz.ntmps58 ?_;intro w e X hC
 refine uA ?_
 refine uR1 (uI @d0 @List.append_eq.{0}) ?_;intro K hK
 refine callF uTS (g1) uTS uTS uTS ?_;refine uS ?_
 refine callF uTS (g2) uTS uTS uTS ?_;refine uS ?_
 first|refine uS1 @d3 ?_|exact uX1 @d3
 refine hK _ ?_;clear hK K
 (refine awp_ret (ret1 uRT ?_);try rfl)
theorem same_4 (a b:Acx) (hamv:a.mv.length<=1000000) (hbmv:b.mv.length<=1000000) (hagl:a.gl.length<=1000000) (hbgl:b.gl.length<=1000000) (h0:a.k=b.k) (h1:a.mv=b.mv) (h2:a.gl=b.gl) (h3:a.lost=b.lost) (h4:¬a.plt=b.plt):SatG Tryz.prog tab 58 [] [a.av,b.av] [] (B false):=by
 have d0:decide (a.k=b.k)=true:=decide_eq_true h0
 have g1:=equal_sat a.mv b.mv hamv hbmv
 rw[decide_eq_true h1] at g1
 have g2:=equal_sat a.gl b.gl hagl hbgl
 rw[decide_eq_true h2] at g2
 have d3:(a.lost==b.lost)=true:=by rw[h3];exact beq_self_eq_true _
 have d4:=plt_beq a.plt b.plt
 rw[decide_eq_false h4] at d4
 refine uFN Tryz.func58 Tryz.ntmps58 ?_;intro w e X hC
 refine uA ?_
 refine uR1 (uI @d0 @List.append_eq.{0}) ?_;intro K hK
 refine callF uTS (g1) uTS uTS uTS ?_;refine uS ?_
 refine callF uTS (g2) uTS uTS uTS ?_;refine uS ?_
 first|refine uS1 (uI @d3 @d4) ?_|exact uX1 (uI @d3 @d4)
 refine hK _ ?_;clear hK K
 (refine awp_ret (ret1 uRT ?_);try rfl)
theorem same_5 (a b:Acx) (hamv:a.mv.length<=1000000) (hbmv:b.mv.length<=1000000) (hagl:a.gl.length<=1000000) (hbgl:b.gl.length<=1000000) (h0:a.k=b.k) (h1:a.mv=b.mv) (h2:a.gl=b.gl) (h3:a.lost=b.lost) (h4:a.plt=b.plt) (h5:¬a.node=b.node):SatG Tryz.prog tab 58 [] [a.av,b.av] [] (B false):=by
 have d0:decide (a.k=b.k)=true:=decide_eq_true h0
 have g1:=equal_sat a.mv b.mv hamv hbmv
 rw[decide_eq_true h1] at g1
 have g2:=equal_sat a.gl b.gl hagl hbgl
 rw[decide_eq_true h2] at g2
 have d3:(a.lost==b.lost)=true:=by rw[h3];exact beq_self_eq_true _
 have d4:=plt_beq a.plt b.plt
 rw[decide_eq_true h4] at d4
 have d5:decide (a.node=b.node)=false:=decide_eq_false h5
 refine uFN Tryz.func58 Tryz.ntmps58 ?_;intro w e X hC
 refine uA ?_
 refine uR1 (uI @d0 @List.append_eq.{0}) ?_;intro K hK
 refine callF uTS (g1) uTS uTS uTS ?_;refine uS ?_
 refine callF uTS (g2) uTS uTS uTS ?_;refine uS ?_
 first|refine uS1 (uI @d3 (uI @d4 @d5)) ?_|exact uX1 (uI @d3 (uI @d4 @d5))
 refine hK _ ?_;clear hK K
 (refine awp_ret (ret1 uRT ?_);try rfl)
theorem same_6 (a b:Acx) (hamv:a.mv.length<=1000000) (hbmv:b.mv.length<=1000000) (hagl:a.gl.length<=1000000) (hbgl:b.gl.length<=1000000) (h0:a.k=b.k) (h1:a.mv=b.mv) (h2:a.gl=b.gl) (h3:a.lost=b.lost) (h4:a.plt=b.plt) (h5:a.node=b.node) (h6:¬a.img=b.img):SatG Tryz.prog tab 58 [] [a.av,b.av] [] (B false):=by
 have d0:decide (a.k=b.k)=true:=decide_eq_true h0
 have g1:=equal_sat a.mv b.mv hamv hbmv
 rw[decide_eq_true h1] at g1
 have g2:=equal_sat a.gl b.gl hagl hbgl
 rw[decide_eq_true h2] at g2
 have d3:(a.lost==b.lost)=true:=by rw[h3];exact beq_self_eq_true _
 have d4:=plt_beq a.plt b.plt
 rw[decide_eq_true h4] at d4
 have d5:decide (a.node=b.node)=true:=decide_eq_true h5
 have d6:decide (a.img=b.img)=false:=decide_eq_false h6
 refine uFN Tryz.func58 Tryz.ntmps58 ?_;intro w e X hC
 refine uA ?_
 refine uR1 (uI @d0 @List.append_eq.{0}) ?_;intro K hK
 refine callF uTS (g1) uTS uTS uTS ?_;refine uS ?_
 refine callF uTS (g2) uTS uTS uTS ?_;refine uS ?_
 first|refine uS1 (uI @d3 (uI @d4 (uI @d5 @d6))) ?_|exact uX1 (uI @d3 (uI @d4 (uI @d5 @d6)))
 refine hK _ ?_;clear hK K
 (refine awp_ret (ret1 uRT ?_);try rfl)
theorem same_7 (a b:Acx) (hamv:a.mv.length<=1000000) (hbmv:b.mv.length<=1000000) (hagl:a.gl.length<=1000000) (hbgl:b.gl.length<=1000000) (h0:a.k=b.k) (h1:a.mv=b.mv) (h2:a.gl=b.gl) (h3:a.lost=b.lost) (h4:a.plt=b.plt) (h5:a.node=b.node) (h6:a.img=b.img) (h7:¬a.clr=b.clr):SatG Tryz.prog tab 58 [] [a.av,b.av] [] (B false):=by
 have d0:decide (a.k=b.k)=true:=decide_eq_true h0
 have g1:=equal_sat a.mv b.mv hamv hbmv
 rw[decide_eq_true h1] at g1
 have g2:=equal_sat a.gl b.gl hagl hbgl
 rw[decide_eq_true h2] at g2
 have d3:(a.lost==b.lost)=true:=by rw[h3];exact beq_self_eq_true _
 have d4:=plt_beq a.plt b.plt
 rw[decide_eq_true h4] at d4
 have d5:decide (a.node=b.node)=true:=decide_eq_true h5
 have d6:decide (a.img=b.img)=true:=decide_eq_true h6
 have d7:(a.clr==b.clr)=false:=beq_eq_false_iff_ne.2 h7
 refine uFN Tryz.func58 Tryz.ntmps58 ?_;intro w e X hC
 refine uA ?_
 refine uR1 (uI @d0 @List.append_eq.{0}) ?_;intro K hK
 refine callF uTS (g1) uTS uTS uTS ?_;refine uS ?_
 refine callF uTS (g2) uTS uTS uTS ?_;refine uS ?_
 first|refine uS1 (uI @d3 (uI @d4 (uI @d5 (uI @d6 @d7)))) ?_|exact uX1 (uI @d3 (uI @d4 (uI @d5 (uI @d6 @d7))))
 refine hK _ ?_;clear hK K
 (refine awp_ret (ret1 uRT ?_);try rfl)
theorem same_8 (a b:Acx) (hamv:a.mv.length<=1000000) (hbmv:b.mv.length<=1000000) (hagl:a.gl.length<=1000000) (hbgl:b.gl.length<=1000000) (h0:a.k=b.k) (h1:a.mv=b.mv) (h2:a.gl=b.gl) (h3:a.lost=b.lost) (h4:a.plt=b.plt) (h5:a.node=b.node) (h6:a.img=b.img) (h7:a.clr=b.clr) (h8:¬a.txt=b.txt):SatG Tryz.prog tab 58 [] [a.av,b.av] [] (B false):=by
 have d0:decide (a.k=b.k)=true:=decide_eq_true h0
 have g1:=equal_sat a.mv b.mv hamv hbmv
 rw[decide_eq_true h1] at g1
 have g2:=equal_sat a.gl b.gl hagl hbgl
 rw[decide_eq_true h2] at g2
 have d3:(a.lost==b.lost)=true:=by rw[h3];exact beq_self_eq_true _
 have d4:=plt_beq a.plt b.plt
 rw[decide_eq_true h4] at d4
 have d5:decide (a.node=b.node)=true:=decide_eq_true h5
 have d6:decide (a.img=b.img)=true:=decide_eq_true h6
 have d7:(a.clr==b.clr)=true:=by rw[h7];exact beq_self_eq_true _
 have d8:decide (a.txt=b.txt)=false:=decide_eq_false h8
 refine uFN Tryz.func58 Tryz.ntmps58 ?_;intro w e X hC
 refine uA ?_
 refine uR1 (uI @d0 @List.append_eq.{0}) ?_;intro K hK
 refine callF uTS (g1) uTS uTS uTS ?_;refine uS ?_
 refine callF uTS (g2) uTS uTS uTS ?_;refine uS ?_
 first|refine uS1 (uI @d3 (uI @d4 (uI @d5 (uI @d6 (uI @d7 @d8))))) ?_|exact uX1 (uI @d3 (uI @d4 (uI @d5 (uI @d6 (uI @d7 @d8)))))
 refine hK _ ?_;clear hK K
 (refine awp_ret (ret1 uRT ?_);try rfl)
theorem same_9 (a b:Acx) (hamv:a.mv.length<=1000000) (hbmv:b.mv.length<=1000000) (hagl:a.gl.length<=1000000) (hbgl:b.gl.length<=1000000) (h0:a.k=b.k) (h1:a.mv=b.mv) (h2:a.gl=b.gl) (h3:a.lost=b.lost) (h4:a.plt=b.plt) (h5:a.node=b.node) (h6:a.img=b.img) (h7:a.clr=b.clr) (h8:a.txt=b.txt) (h9:¬a.rev=b.rev):SatG Tryz.prog tab 58 [] [a.av,b.av] [] (B false):=by
 have d0:decide (a.k=b.k)=true:=decide_eq_true h0
 have g1:=equal_sat a.mv b.mv hamv hbmv
 rw[decide_eq_true h1] at g1
 have g2:=equal_sat a.gl b.gl hagl hbgl
 rw[decide_eq_true h2] at g2
 have d3:(a.lost==b.lost)=true:=by rw[h3];exact beq_self_eq_true _
 have d4:=plt_beq a.plt b.plt
 rw[decide_eq_true h4] at d4
 have d5:decide (a.node=b.node)=true:=decide_eq_true h5
 have d6:decide (a.img=b.img)=true:=decide_eq_true h6
 have d7:(a.clr==b.clr)=true:=by rw[h7];exact beq_self_eq_true _
 have d8:decide (a.txt=b.txt)=true:=decide_eq_true h8
 have d9:=rev_beq a.rev b.rev
 rw[decide_eq_false h9] at d9
 refine uFN Tryz.func58 Tryz.ntmps58 ?_;intro w e X hC
 refine uA ?_
 refine uR1 (uI @d0 @List.append_eq.{0}) ?_;intro K hK
 refine callF uTS (g1) uTS uTS uTS ?_;refine uS ?_
 refine callF uTS (g2) uTS uTS uTS ?_;refine uS ?_
 first|refine uS1 (uI @d3 (uI @d4 (uI @d5 (uI @d6 (uI @d7 (uI @d8 @d9)))))) ?_|exact uX1 (uI @d3 (uI @d4 (uI @d5 (uI @d6 (uI @d7 (uI @d8 @d9))))))
 refine hK _ ?_;clear hK K
 (refine awp_ret (ret1 uRT ?_);try rfl)
theorem same_10 (a b:Acx) (hamv:a.mv.length<=1000000) (hbmv:b.mv.length<=1000000) (hagl:a.gl.length<=1000000) (hbgl:b.gl.length<=1000000) (h0:a.k=b.k) (h1:a.mv=b.mv) (h2:a.gl=b.gl) (h3:a.lost=b.lost) (h4:a.plt=b.plt) (h5:a.node=b.node) (h6:a.img=b.img) (h7:a.clr=b.clr) (h8:a.txt=b.txt) (h9:a.rev=b.rev) (h10:¬a.dev=b.dev):SatG Tryz.prog tab 58 [] [a.av,b.av] [] (B false):=by
 have d0:decide (a.k=b.k)=true:=decide_eq_true h0
 have g1:=equal_sat a.mv b.mv hamv hbmv
 rw[decide_eq_true h1] at g1
 have g2:=equal_sat a.gl b.gl hagl hbgl
 rw[decide_eq_true h2] at g2
 have d3:(a.lost==b.lost)=true:=by rw[h3];exact beq_self_eq_true _
 have d4:=plt_beq a.plt b.plt
 rw[decide_eq_true h4] at d4
 have d5:decide (a.node=b.node)=true:=decide_eq_true h5
 have d6:decide (a.img=b.img)=true:=decide_eq_true h6
 have d7:(a.clr==b.clr)=true:=by rw[h7];exact beq_self_eq_true _
 have d8:decide (a.txt=b.txt)=true:=decide_eq_true h8
 have d9:=rev_beq a.rev b.rev
 rw[decide_eq_true h9] at d9
 have d10:decide (a.dev=b.dev)=false:=decide_eq_false h10
 refine uFN Tryz.func58 Tryz.ntmps58 ?_;intro w e X hC
 refine uA ?_
 refine uR1 (uI @d0 @List.append_eq.{0}) ?_;intro K hK
 refine callF uTS (g1) uTS uTS uTS ?_;refine uS ?_
 refine callF uTS (g2) uTS uTS uTS ?_;refine uS ?_
 first|refine uS1 (uI @d3 (uI @d4 (uI @d5 (uI @d6 (uI @d7 (uI @d8 (uI @d9 @d10))))))) ?_|exact uX1 (uI @d3 (uI @d4 (uI @d5 (uI @d6 (uI @d7 (uI @d8 (uI @d9 @d10)))))))
 refine hK _ ?_;clear hK K
 (refine awp_ret (ret1 uRT ?_);try rfl)
theorem same_11 (a b:Acx) (hamv:a.mv.length<=1000000) (hbmv:b.mv.length<=1000000) (hagl:a.gl.length<=1000000) (hbgl:b.gl.length<=1000000) (h0:a.k=b.k) (h1:a.mv=b.mv) (h2:a.gl=b.gl) (h3:a.lost=b.lost) (h4:a.plt=b.plt) (h5:a.node=b.node) (h6:a.img=b.img) (h7:a.clr=b.clr) (h8:a.txt=b.txt) (h9:a.rev=b.rev) (h10:a.dev=b.dev) (h11:¬a.con=b.con):SatG Tryz.prog tab 58 [] [a.av,b.av] [] (B false):=by
 have d0:decide (a.k=b.k)=true:=decide_eq_true h0
 have g1:=equal_sat a.mv b.mv hamv hbmv
 rw[decide_eq_true h1] at g1
 have g2:=equal_sat a.gl b.gl hagl hbgl
 rw[decide_eq_true h2] at g2
 have d3:(a.lost==b.lost)=true:=by rw[h3];exact beq_self_eq_true _
 have d4:=plt_beq a.plt b.plt
 rw[decide_eq_true h4] at d4
 have d5:decide (a.node=b.node)=true:=decide_eq_true h5
 have d6:decide (a.img=b.img)=true:=decide_eq_true h6
 have d7:(a.clr==b.clr)=true:=by rw[h7];exact beq_self_eq_true _
 have d8:decide (a.txt=b.txt)=true:=decide_eq_true h8
 have d9:=rev_beq a.rev b.rev
 rw[decide_eq_true h9] at d9
 have d10:decide (a.dev=b.dev)=true:=decide_eq_true h10
 have d11:decide (a.con=b.con)=false:=decide_eq_false h11
 refine uFN Tryz.func58 Tryz.ntmps58 ?_;intro w e X hC
 refine uA ?_
 refine uR1 (uI @d0 @List.append_eq.{0}) ?_;intro K hK
 refine callF uTS (g1) uTS uTS uTS ?_;refine uS ?_
 refine callF uTS (g2) uTS uTS uTS ?_;refine uS ?_
 first|refine uS1 (uI @d3 (uI @d4 (uI @d5 (uI @d6 (uI @d7 (uI @d8 (uI @d9 (uI @d10 @d11)))))))) ?_|exact uX1 (uI @d3 (uI @d4 (uI @d5 (uI @d6 (uI @d7 (uI @d8 (uI @d9 (uI @d10 @d11))))))))
 refine hK _ ?_;clear hK K
 (refine awp_ret (ret1 uRT ?_);try rfl)
theorem same_12 (a b:Acx) (hamv:a.mv.length<=1000000) (hbmv:b.mv.length<=1000000) (hagl:a.gl.length<=1000000) (hbgl:b.gl.length<=1000000) (h0:a.k=b.k) (h1:a.mv=b.mv) (h2:a.gl=b.gl) (h3:a.lost=b.lost) (h4:a.plt=b.plt) (h5:a.node=b.node) (h6:a.img=b.img) (h7:a.clr=b.clr) (h8:a.txt=b.txt) (h9:a.rev=b.rev) (h10:a.dev=b.dev) (h11:a.con=b.con):SatG Tryz.prog tab 58 [] [a.av,b.av] [] (B (decide (a.flt=b.flt))):=by
 have d0:decide (a.k=b.k)=true:=decide_eq_true h0
 have g1:=equal_sat a.mv b.mv hamv hbmv
 rw[decide_eq_true h1] at g1
 have g2:=equal_sat a.gl b.gl hagl hbgl
 rw[decide_eq_true h2] at g2
 have d3:(a.lost==b.lost)=true:=by rw[h3];exact beq_self_eq_true _
 have d4:=plt_beq a.plt b.plt
 rw[decide_eq_true h4] at d4
 have d5:decide (a.node=b.node)=true:=decide_eq_true h5
 have d6:decide (a.img=b.img)=true:=decide_eq_true h6
 have d7:(a.clr==b.clr)=true:=by rw[h7];exact beq_self_eq_true _
 have d8:decide (a.txt=b.txt)=true:=decide_eq_true h8
 have d9:=rev_beq a.rev b.rev
 rw[decide_eq_true h9] at d9
 have d10:decide (a.dev=b.dev)=true:=decide_eq_true h10
 have d11:decide (a.con=b.con)=true:=decide_eq_true h11
 have d12:=flt_beq a.flt b.flt
 refine uFN Tryz.func58 Tryz.ntmps58 ?_;intro w e X hC
 refine uA ?_
 refine uR1 (uI @d0 @List.append_eq.{0}) ?_;intro K hK
 refine callF uTS (g1) uTS uTS uTS ?_;refine uS ?_
 refine callF uTS (g2) uTS uTS uTS ?_;refine uS ?_
 first|refine uS1 (uI @d3 (uI @d4 (uI @d5 (uI @d6 (uI @d7 (uI @d8 (uI @d9 (uI @d10 (uI @d11 @d12))))))))) ?_|exact uX1 (uI @d3 (uI @d4 (uI @d5 (uI @d6 (uI @d7 (uI @d8 (uI @d9 (uI @d10 (uI @d11 @d12)))))))))
 refine hK _ ?_;clear hK K
 (refine awp_ret (ret1 uRT ?_);try rfl)
theorem same_sat (a b:Acx) (hamv:a.mv.length<=1000000) (hbmv:b.mv.length<=1000000) (hagl:a.gl.length<=1000000) (hbgl:b.gl.length<=1000000):SatG Tryz.prog tab 58 [] [a.av,b.av] [] (B (decide (a=b))):=by
 by_cases h0:¬a.k=b.k
 ·rw[decide_eq_false (show ¬a=b from fun h=>h0 (by rw[h]))]
  exact same_0 a b hamv hbmv hagl hbgl h0
 replace h0:=Decidable.not_not.1 h0
 by_cases h1:¬a.mv=b.mv
 ·rw[decide_eq_false (show ¬a=b from fun h=>h1 (by rw[h]))]
  exact same_1 a b hamv hbmv hagl hbgl h0 h1
 replace h1:=Decidable.not_not.1 h1
 by_cases h2:¬a.gl=b.gl
 ·rw[decide_eq_false (show ¬a=b from fun h=>h2 (by rw[h]))]
  exact same_2 a b hamv hbmv hagl hbgl h0 h1 h2
 replace h2:=Decidable.not_not.1 h2
 by_cases h3:¬a.lost=b.lost
 ·rw[decide_eq_false (show ¬a=b from fun h=>h3 (by rw[h]))]
  exact same_3 a b hamv hbmv hagl hbgl h0 h1 h2 h3
 replace h3:=Decidable.not_not.1 h3
 by_cases h4:¬a.plt=b.plt
 ·rw[decide_eq_false (show ¬a=b from fun h=>h4 (by rw[h]))]
  exact same_4 a b hamv hbmv hagl hbgl h0 h1 h2 h3 h4
 replace h4:=Decidable.not_not.1 h4
 by_cases h5:¬a.node=b.node
 ·rw[decide_eq_false (show ¬a=b from fun h=>h5 (by rw[h]))]
  exact same_5 a b hamv hbmv hagl hbgl h0 h1 h2 h3 h4 h5
 replace h5:=Decidable.not_not.1 h5
 by_cases h6:¬a.img=b.img
 ·rw[decide_eq_false (show ¬a=b from fun h=>h6 (by rw[h]))]
  exact same_6 a b hamv hbmv hagl hbgl h0 h1 h2 h3 h4 h5 h6
 replace h6:=Decidable.not_not.1 h6
 by_cases h7:¬a.clr=b.clr
 ·rw[decide_eq_false (show ¬a=b from fun h=>h7 (by rw[h]))]
  exact same_7 a b hamv hbmv hagl hbgl h0 h1 h2 h3 h4 h5 h6 h7
 replace h7:=Decidable.not_not.1 h7
 by_cases h8:¬a.txt=b.txt
 ·rw[decide_eq_false (show ¬a=b from fun h=>h8 (by rw[h]))]
  exact same_8 a b hamv hbmv hagl hbgl h0 h1 h2 h3 h4 h5 h6 h7 h8
 replace h8:=Decidable.not_not.1 h8
 by_cases h9:¬a.rev=b.rev
 ·rw[decide_eq_false (show ¬a=b from fun h=>h9 (by rw[h]))]
  exact same_9 a b hamv hbmv hagl hbgl h0 h1 h2 h3 h4 h5 h6 h7 h8 h9
 replace h9:=Decidable.not_not.1 h9
 by_cases h10:¬a.dev=b.dev
 ·rw[decide_eq_false (show ¬a=b from fun h=>h10 (by rw[h]))]
  exact same_10 a b hamv hbmv hagl hbgl h0 h1 h2 h3 h4 h5 h6 h7 h8 h9 h10
 replace h10:=Decidable.not_not.1 h10
 by_cases h11:¬a.con=b.con
 ·rw[decide_eq_false (show ¬a=b from fun h=>h11 (by rw[h]))]
  exact same_11 a b hamv hbmv hagl hbgl h0 h1 h2 h3 h4 h5 h6 h7 h8 h9 h10 h11
 replace h11:=Decidable.not_not.1 h11
 rw[decide_eq_decide.2 (show a=b↔a.flt=b.flt from⟨fun h=>by rw[h],fun h=>by
  obtain⟨⟩:=a
  obtain⟨⟩:=b
  simp_all⟩)]
 exact same_12 a b hamv hbmv hagl hbgl h0 h1 h2 h3 h4 h5 h6 h7 h8 h9 h10 h11
open Go.Scr
theorem nil_len:([]:List Flaw).length<=1000000:=by decide
theorem only_1 {x:Acx} (hk:x.k=1):only x=⟨x.k,x.mv,x.gl,x.lost,P0,0,0,false,[],R0,0,0,F0⟩:=by
 unfold only
 rw[if_pos (by omega)]
 rfl
theorem spare_1 (x:Acx) (h1:x.mv.length<=1000000) (h2:x.gl.length<=1000000) (hk:x.k=1):SatG Tryz.prog tab 34 [] [x.av] [] (B (decide (x=only x))):=by
 have e1:=uDt (x.k=1)
 have e2:=uDf (x.k=2)
 have e10:=uDf (x.k=10)
 have e3:=uDf (x.k=3)
 have e4:=uDf (x.k=4)
 have e5:=uDf (x.k=5)
 have e6:=uDf (x.k=6)
 have e7:=uDf (x.k=7)
 have e8:=uDf (x.k=8)
 have e9:=uDf (x.k=9)
 have e11:=uDf (x.k=11)
 have e12:=uDf (x.k=12)
 have e13:=uDf (x.k=13)
 have ho:=only_1 hk
 have hs:=same_sat x (only x) h1 (by rw[ho];exact h1) h2 (by rw[ho];exact h2)
 rw[ho] at hs
 rw[ho]
 refine uFN Tryz.func34 Tryz.ntmps34 ?_;intro w e X hC
 repeat first|refine uC ?_|refine uA1 (uI @e1 (uI @e2 (uI @e10 (uI @e3 (uI @e4 (uI @e5 (uI @e6 (uI @e7 (uI @e8 (uI @e9 (uI @e11 (uI @e12 @e13)))))))))))) ?_
 refine uD ?_;intro K hK
 refine uH ?_
 refine hK _ ?_;clear hK K
 refine uR ?_;intro K hK
 refine uH ?_
 refine callF uTS (hs) uTS uTS uTS ?_;refine uS ?_
 refine hK _ ?_;clear hK K
 (refine awp_ret (ret1 uRT ?_);try rfl)
theorem only_2 {x:Acx} (hk:x.k=2):only x=⟨x.k,[],[],false,x.plt,x.node,0,false,[],R0,0,0,F0⟩:=by
 unfold only
 rw[if_neg (by omega),if_pos (by omega)]
 rfl
theorem spare_2 (x:Acx) (h1:x.mv.length<=1000000) (h2:x.gl.length<=1000000) (hk:x.k=2):SatG Tryz.prog tab 34 [] [x.av] [] (B (decide (x=only x))):=by
 have e1:=uDf (x.k=1)
 have e2:=uDt (x.k=2)
 have e10:=uDf (x.k=10)
 have e3:=uDf (x.k=3)
 have e4:=uDf (x.k=4)
 have e5:=uDf (x.k=5)
 have e6:=uDf (x.k=6)
 have e7:=uDf (x.k=7)
 have e8:=uDf (x.k=8)
 have e9:=uDf (x.k=9)
 have e11:=uDf (x.k=11)
 have e12:=uDf (x.k=12)
 have e13:=uDf (x.k=13)
 have ho:=only_2 hk
 have hs:=same_sat x (only x) h1 (by rw[ho];exact nil_len) h2 (by rw[ho];exact nil_len)
 rw[ho] at hs
 rw[ho]
 refine uFN Tryz.func34 Tryz.ntmps34 ?_;intro w e X hC
 repeat first|refine uC ?_|refine uA1 (uI @e1 (uI @e2 (uI @e10 (uI @e3 (uI @e4 (uI @e5 (uI @e6 (uI @e7 (uI @e8 (uI @e9 (uI @e11 (uI @e12 @e13)))))))))))) ?_
 refine uD ?_;intro K hK
 refine uH ?_
 refine hK _ ?_;clear hK K
 refine uR ?_;intro K hK
 refine uH ?_
 refine callF uTS (hs) uTS uTS uTS ?_;refine uS ?_
 refine hK _ ?_;clear hK K
 (refine awp_ret (ret1 uRT ?_);try rfl)
theorem only_10 {x:Acx} (hk:x.k=10):only x=⟨x.k,[],[],false,x.plt,x.node,0,false,[],R0,0,0,F0⟩:=by
 unfold only
 rw[if_neg (by omega),if_pos (by omega)]
 rfl
theorem spare_10 (x:Acx) (h1:x.mv.length<=1000000) (h2:x.gl.length<=1000000) (hk:x.k=10):SatG Tryz.prog tab 34 [] [x.av] [] (B (decide (x=only x))):=by
 have e1:=uDf (x.k=1)
 have e2:=uDf (x.k=2)
 have e10:=uDt (x.k=10)
 have e3:=uDf (x.k=3)
 have e4:=uDf (x.k=4)
 have e5:=uDf (x.k=5)
 have e6:=uDf (x.k=6)
 have e7:=uDf (x.k=7)
 have e8:=uDf (x.k=8)
 have e9:=uDf (x.k=9)
 have e11:=uDf (x.k=11)
 have e12:=uDf (x.k=12)
 have e13:=uDf (x.k=13)
 have ho:=only_10 hk
 have hs:=same_sat x (only x) h1 (by rw[ho];exact nil_len) h2 (by rw[ho];exact nil_len)
 rw[ho] at hs
 rw[ho]
 refine uFN Tryz.func34 Tryz.ntmps34 ?_;intro w e X hC
 repeat first|refine uC ?_|refine uA1 (uI @e1 (uI @e2 (uI @e10 (uI @e3 (uI @e4 (uI @e5 (uI @e6 (uI @e7 (uI @e8 (uI @e9 (uI @e11 (uI @e12 @e13)))))))))))) ?_
 refine uD ?_;intro K hK
 refine uH ?_
 refine hK _ ?_;clear hK K
 refine uR ?_;intro K hK
 refine uH ?_
 refine callF uTS (hs) uTS uTS uTS ?_;refine uS ?_
 refine hK _ ?_;clear hK K
 (refine awp_ret (ret1 uRT ?_);try rfl)
theorem only_3 {x:Acx} (hk:x.k=3):only x=⟨x.k,[],[],false,P0,0,0,false,x.txt,R0,0,0,F0⟩:=by
 unfold only
 rw[if_neg (by omega),if_neg (by omega),if_pos (by omega)]
 rfl
theorem spare_3 (x:Acx) (h1:x.mv.length<=1000000) (h2:x.gl.length<=1000000) (hk:x.k=3):SatG Tryz.prog tab 34 [] [x.av] [] (B (decide (x=only x))):=by
 have e1:=uDf (x.k=1)
 have e2:=uDf (x.k=2)
 have e10:=uDf (x.k=10)
 have e3:=uDt (x.k=3)
 have e4:=uDf (x.k=4)
 have e5:=uDf (x.k=5)
 have e6:=uDf (x.k=6)
 have e7:=uDf (x.k=7)
 have e8:=uDf (x.k=8)
 have e9:=uDf (x.k=9)
 have e11:=uDf (x.k=11)
 have e12:=uDf (x.k=12)
 have e13:=uDf (x.k=13)
 have ho:=only_3 hk
 have hs:=same_sat x (only x) h1 (by rw[ho];exact nil_len) h2 (by rw[ho];exact nil_len)
 rw[ho] at hs
 rw[ho]
 refine uFN Tryz.func34 Tryz.ntmps34 ?_;intro w e X hC
 repeat first|refine uC ?_|refine uA1 (uI @e1 (uI @e2 (uI @e10 (uI @e3 (uI @e4 (uI @e5 (uI @e6 (uI @e7 (uI @e8 (uI @e9 (uI @e11 (uI @e12 @e13)))))))))))) ?_
 refine uR ?_;intro K hK
 refine uH ?_
 refine callF uTS (hs) uTS uTS uTS ?_;refine uS ?_
 refine hK _ ?_;clear hK K
 (refine awp_ret (ret1 uRT ?_);try rfl)
theorem only_4 {x:Acx} (hk:x.k=4):only x=⟨x.k,[],[],false,P0,0,x.img,x.clr,[],R0,0,0,F0⟩:=by
 unfold only
 rw[if_neg (by omega),if_neg (by omega),if_neg (by omega),if_pos (by omega)]
 rfl
theorem spare_4 (x:Acx) (h1:x.mv.length<=1000000) (h2:x.gl.length<=1000000) (hk:x.k=4):SatG Tryz.prog tab 34 [] [x.av] [] (B (decide (x=only x))):=by
 have e1:=uDf (x.k=1)
 have e2:=uDf (x.k=2)
 have e10:=uDf (x.k=10)
 have e3:=uDf (x.k=3)
 have e4:=uDt (x.k=4)
 have e5:=uDf (x.k=5)
 have e6:=uDf (x.k=6)
 have e7:=uDf (x.k=7)
 have e8:=uDf (x.k=8)
 have e9:=uDf (x.k=9)
 have e11:=uDf (x.k=11)
 have e12:=uDf (x.k=12)
 have e13:=uDf (x.k=13)
 have ho:=only_4 hk
 have hs:=same_sat x (only x) h1 (by rw[ho];exact nil_len) h2 (by rw[ho];exact nil_len)
 rw[ho] at hs
 rw[ho]
 refine uFN Tryz.func34 Tryz.ntmps34 ?_;intro w e X hC
 repeat first|refine uC ?_|refine uA1 (uI @e1 (uI @e2 (uI @e10 (uI @e3 (uI @e4 (uI @e5 (uI @e6 (uI @e7 (uI @e8 (uI @e9 (uI @e11 (uI @e12 @e13)))))))))))) ?_
 refine uD ?_;intro K hK
 refine uH ?_
 refine hK _ ?_;clear hK K
 refine uR ?_;intro K hK
 refine uH ?_
 refine callF uTS (hs) uTS uTS uTS ?_;refine uS ?_
 refine hK _ ?_;clear hK K
 (refine awp_ret (ret1 uRT ?_);try rfl)
theorem only_5 {x:Acx} (hk:x.k=5):only x=⟨x.k,[],[],false,P0,0,0,false,[],x.rev,0,0,F0⟩:=by
 unfold only
 rw[if_neg (by omega),if_neg (by omega),if_neg (by omega),if_neg (by omega),if_pos (by omega)]
 rfl
theorem spare_5 (x:Acx) (h1:x.mv.length<=1000000) (h2:x.gl.length<=1000000) (hk:x.k=5):SatG Tryz.prog tab 34 [] [x.av] [] (B (decide (x=only x))):=by
 have e1:=uDf (x.k=1)
 have e2:=uDf (x.k=2)
 have e10:=uDf (x.k=10)
 have e3:=uDf (x.k=3)
 have e4:=uDf (x.k=4)
 have e5:=uDt (x.k=5)
 have e6:=uDf (x.k=6)
 have e7:=uDf (x.k=7)
 have e8:=uDf (x.k=8)
 have e9:=uDf (x.k=9)
 have e11:=uDf (x.k=11)
 have e12:=uDf (x.k=12)
 have e13:=uDf (x.k=13)
 have ho:=only_5 hk
 have hs:=same_sat x (only x) h1 (by rw[ho];exact nil_len) h2 (by rw[ho];exact nil_len)
 rw[ho] at hs
 rw[ho]
 refine uFN Tryz.func34 Tryz.ntmps34 ?_;intro w e X hC
 repeat first|refine uC ?_|refine uA1 (uI @e1 (uI @e2 (uI @e10 (uI @e3 (uI @e4 (uI @e5 (uI @e6 (uI @e7 (uI @e8 (uI @e9 (uI @e11 (uI @e12 @e13)))))))))))) ?_
 refine uR ?_;intro K hK
 refine uH ?_
 refine callF uTS (hs) uTS uTS uTS ?_;refine uS ?_
 refine hK _ ?_;clear hK K
 (refine awp_ret (ret1 uRT ?_);try rfl)
theorem only_6 {x:Acx} (hk:x.k=6):only x=⟨x.k,[],[],false,P0,x.node,0,false,[],R0,0,0,F0⟩:=by
 unfold only
 rw[if_neg (by omega),if_neg (by omega),if_neg (by omega),if_neg (by omega),if_neg (by omega),if_pos (by omega)]
 rfl
theorem spare_6 (x:Acx) (h1:x.mv.length<=1000000) (h2:x.gl.length<=1000000) (hk:x.k=6):SatG Tryz.prog tab 34 [] [x.av] [] (B (decide (x=only x))):=by
 have e1:=uDf (x.k=1)
 have e2:=uDf (x.k=2)
 have e10:=uDf (x.k=10)
 have e3:=uDf (x.k=3)
 have e4:=uDf (x.k=4)
 have e5:=uDf (x.k=5)
 have e6:=uDt (x.k=6)
 have e7:=uDf (x.k=7)
 have e8:=uDf (x.k=8)
 have e9:=uDf (x.k=9)
 have e11:=uDf (x.k=11)
 have e12:=uDf (x.k=12)
 have e13:=uDf (x.k=13)
 have ho:=only_6 hk
 have hs:=same_sat x (only x) h1 (by rw[ho];exact nil_len) h2 (by rw[ho];exact nil_len)
 rw[ho] at hs
 rw[ho]
 refine uFN Tryz.func34 Tryz.ntmps34 ?_;intro w e X hC
 repeat first|refine uC ?_|refine uA1 (uI @e1 (uI @e2 (uI @e10 (uI @e3 (uI @e4 (uI @e5 (uI @e6 (uI @e7 (uI @e8 (uI @e9 (uI @e11 (uI @e12 @e13)))))))))))) ?_
 refine uR ?_;intro K hK
 refine uH ?_
 refine callF uTS (hs) uTS uTS uTS ?_;refine uS ?_
 refine hK _ ?_;clear hK K
 (refine awp_ret (ret1 uRT ?_);try rfl)
theorem only_7 {x:Acx} (hk:x.k=7):only x=⟨x.k,[],[],false,P0,x.node,0,false,[],R0,0,0,F0⟩:=by
 unfold only
 rw[if_neg (by omega),if_neg (by omega),if_neg (by omega),if_neg (by omega),if_neg (by omega),if_pos (by omega)]
 rfl
theorem spare_7 (x:Acx) (h1:x.mv.length<=1000000) (h2:x.gl.length<=1000000) (hk:x.k=7):SatG Tryz.prog tab 34 [] [x.av] [] (B (decide (x=only x))):=by
 have e1:=uDf (x.k=1)
 have e2:=uDf (x.k=2)
 have e10:=uDf (x.k=10)
 have e3:=uDf (x.k=3)
 have e4:=uDf (x.k=4)
 have e5:=uDf (x.k=5)
 have e6:=uDf (x.k=6)
 have e7:=uDt (x.k=7)
 have e8:=uDf (x.k=8)
 have e9:=uDf (x.k=9)
 have e11:=uDf (x.k=11)
 have e12:=uDf (x.k=12)
 have e13:=uDf (x.k=13)
 have ho:=only_7 hk
 have hs:=same_sat x (only x) h1 (by rw[ho];exact nil_len) h2 (by rw[ho];exact nil_len)
 rw[ho] at hs
 rw[ho]
 refine uFN Tryz.func34 Tryz.ntmps34 ?_;intro w e X hC
 repeat first|refine uC ?_|refine uA1 (uI @e1 (uI @e2 (uI @e10 (uI @e3 (uI @e4 (uI @e5 (uI @e6 (uI @e7 (uI @e8 (uI @e9 (uI @e11 (uI @e12 @e13)))))))))))) ?_
 refine uR ?_;intro K hK
 refine uH ?_
 refine callF uTS (hs) uTS uTS uTS ?_;refine uS ?_
 refine hK _ ?_;clear hK K
 (refine awp_ret (ret1 uRT ?_);try rfl)
theorem only_8 {x:Acx} (hk:x.k=8):only x=⟨x.k,[],[],false,x.plt,x.node,0,false,[],R0,x.dev,x.con,F0⟩:=by
 unfold only
 rw[if_neg (by omega),if_neg (by omega),if_neg (by omega),if_neg (by omega),if_neg (by omega),if_neg (by omega),if_pos (by omega)]
 rfl
theorem spare_8 (x:Acx) (h1:x.mv.length<=1000000) (h2:x.gl.length<=1000000) (hk:x.k=8):SatG Tryz.prog tab 34 [] [x.av] [] (B (decide (x=only x))):=by
 have e1:=uDf (x.k=1)
 have e2:=uDf (x.k=2)
 have e10:=uDf (x.k=10)
 have e3:=uDf (x.k=3)
 have e4:=uDf (x.k=4)
 have e5:=uDf (x.k=5)
 have e6:=uDf (x.k=6)
 have e7:=uDf (x.k=7)
 have e8:=uDt (x.k=8)
 have e9:=uDf (x.k=9)
 have e11:=uDf (x.k=11)
 have e12:=uDf (x.k=12)
 have e13:=uDf (x.k=13)
 have ho:=only_8 hk
 have hs:=same_sat x (only x) h1 (by rw[ho];exact nil_len) h2 (by rw[ho];exact nil_len)
 rw[ho] at hs
 rw[ho]
 refine uFN Tryz.func34 Tryz.ntmps34 ?_;intro w e X hC
 repeat first|refine uC ?_|refine uA1 (uI @e1 (uI @e2 (uI @e10 (uI @e3 (uI @e4 (uI @e5 (uI @e6 (uI @e7 (uI @e8 (uI @e9 (uI @e11 (uI @e12 @e13)))))))))))) ?_
 refine uD ?_;intro K hK
 refine uH ?_
 refine hK _ ?_;clear hK K
 refine uR ?_;intro K hK
 refine uH ?_
 refine callF uTS (hs) uTS uTS uTS ?_;refine uS ?_
 refine hK _ ?_;clear hK K
 (refine awp_ret (ret1 uRT ?_);try rfl)
theorem only_9 {x:Acx} (hk:x.k=9):only x=⟨x.k,[],[],false,x.plt,0,0,false,[],R0,x.dev,x.con,F0⟩:=by
 unfold only
 rw[if_neg (by omega),if_neg (by omega),if_neg (by omega),if_neg (by omega),if_neg (by omega),if_neg (by omega),if_neg (by omega),if_pos (by omega)]
 rfl
theorem spare_9 (x:Acx) (h1:x.mv.length<=1000000) (h2:x.gl.length<=1000000) (hk:x.k=9):SatG Tryz.prog tab 34 [] [x.av] [] (B (decide (x=only x))):=by
 have e1:=uDf (x.k=1)
 have e2:=uDf (x.k=2)
 have e10:=uDf (x.k=10)
 have e3:=uDf (x.k=3)
 have e4:=uDf (x.k=4)
 have e5:=uDf (x.k=5)
 have e6:=uDf (x.k=6)
 have e7:=uDf (x.k=7)
 have e8:=uDf (x.k=8)
 have e9:=uDt (x.k=9)
 have e11:=uDf (x.k=11)
 have e12:=uDf (x.k=12)
 have e13:=uDf (x.k=13)
 have ho:=only_9 hk
 have hs:=same_sat x (only x) h1 (by rw[ho];exact nil_len) h2 (by rw[ho];exact nil_len)
 rw[ho] at hs
 rw[ho]
 refine uFN Tryz.func34 Tryz.ntmps34 ?_;intro w e X hC
 repeat first|refine uC ?_|refine uA1 (uI @e1 (uI @e2 (uI @e10 (uI @e3 (uI @e4 (uI @e5 (uI @e6 (uI @e7 (uI @e8 (uI @e9 (uI @e11 (uI @e12 @e13)))))))))))) ?_
 refine uD ?_;intro K hK
 refine uH ?_
 refine hK _ ?_;clear hK K
 refine uR ?_;intro K hK
 refine uH ?_
 refine callF uTS (hs) uTS uTS uTS ?_;refine uS ?_
 refine hK _ ?_;clear hK K
 (refine awp_ret (ret1 uRT ?_);try rfl)
theorem only_11 {x:Acx} (hk:x.k=11):only x=⟨x.k,[],[],false,P0,0,0,false,[],R0,x.dev,0,F0⟩:=by
 unfold only
 rw[if_neg (by omega),if_neg (by omega),if_neg (by omega),if_neg (by omega),if_neg (by omega),if_neg (by omega),if_neg (by omega),if_neg (by omega),if_pos (by omega)]
 rfl
theorem spare_11 (x:Acx) (h1:x.mv.length<=1000000) (h2:x.gl.length<=1000000) (hk:x.k=11):SatG Tryz.prog tab 34 [] [x.av] [] (B (decide (x=only x))):=by
 have e1:=uDf (x.k=1)
 have e2:=uDf (x.k=2)
 have e10:=uDf (x.k=10)
 have e3:=uDf (x.k=3)
 have e4:=uDf (x.k=4)
 have e5:=uDf (x.k=5)
 have e6:=uDf (x.k=6)
 have e7:=uDf (x.k=7)
 have e8:=uDf (x.k=8)
 have e9:=uDf (x.k=9)
 have e11:=uDt (x.k=11)
 have e12:=uDf (x.k=12)
 have e13:=uDf (x.k=13)
 have ho:=only_11 hk
 have hs:=same_sat x (only x) h1 (by rw[ho];exact nil_len) h2 (by rw[ho];exact nil_len)
 rw[ho] at hs
 rw[ho]
 refine uFN Tryz.func34 Tryz.ntmps34 ?_;intro w e X hC
 repeat first|refine uC ?_|refine uA1 (uI @e1 (uI @e2 (uI @e10 (uI @e3 (uI @e4 (uI @e5 (uI @e6 (uI @e7 (uI @e8 (uI @e9 (uI @e11 (uI @e12 @e13)))))))))))) ?_
 refine uR ?_;intro K hK
 refine uH ?_
 refine callF uTS (hs) uTS uTS uTS ?_;refine uS ?_
 refine hK _ ?_;clear hK K
 (refine awp_ret (ret1 uRT ?_);try rfl)
theorem only_12 {x:Acx} (hk:x.k=12):only x=⟨x.k,[],[],false,P0,0,0,false,[],R0,x.dev,0,F0⟩:=by
 unfold only
 rw[if_neg (by omega),if_neg (by omega),if_neg (by omega),if_neg (by omega),if_neg (by omega),if_neg (by omega),if_neg (by omega),if_neg (by omega),if_pos (by omega)]
 rfl
theorem spare_12 (x:Acx) (h1:x.mv.length<=1000000) (h2:x.gl.length<=1000000) (hk:x.k=12):SatG Tryz.prog tab 34 [] [x.av] [] (B (decide (x=only x))):=by
 have e1:=uDf (x.k=1)
 have e2:=uDf (x.k=2)
 have e10:=uDf (x.k=10)
 have e3:=uDf (x.k=3)
 have e4:=uDf (x.k=4)
 have e5:=uDf (x.k=5)
 have e6:=uDf (x.k=6)
 have e7:=uDf (x.k=7)
 have e8:=uDf (x.k=8)
 have e9:=uDf (x.k=9)
 have e11:=uDf (x.k=11)
 have e12:=uDt (x.k=12)
 have e13:=uDf (x.k=13)
 have ho:=only_12 hk
 have hs:=same_sat x (only x) h1 (by rw[ho];exact nil_len) h2 (by rw[ho];exact nil_len)
 rw[ho] at hs
 rw[ho]
 refine uFN Tryz.func34 Tryz.ntmps34 ?_;intro w e X hC
 repeat first|refine uC ?_|refine uA1 (uI @e1 (uI @e2 (uI @e10 (uI @e3 (uI @e4 (uI @e5 (uI @e6 (uI @e7 (uI @e8 (uI @e9 (uI @e11 (uI @e12 @e13)))))))))))) ?_
 refine uR ?_;intro K hK
 refine uH ?_
 refine callF uTS (hs) uTS uTS uTS ?_;refine uS ?_
 refine hK _ ?_;clear hK K
 (refine awp_ret (ret1 uRT ?_);try rfl)
theorem only_13 {x:Acx} (hk:x.k=13):only x=⟨x.k,[],[],false,P0,0,0,false,[],R0,0,0,x.flt⟩:=by
 unfold only
 rw[if_neg (by omega),if_neg (by omega),if_neg (by omega),if_neg (by omega),if_neg (by omega),if_neg (by omega),if_neg (by omega),if_neg (by omega),if_neg (by omega),if_pos (by omega)]
 rfl
theorem spare_13 (x:Acx) (h1:x.mv.length<=1000000) (h2:x.gl.length<=1000000) (hk:x.k=13):SatG Tryz.prog tab 34 [] [x.av] [] (B (decide (x=only x))):=by
 have e1:=uDf (x.k=1)
 have e2:=uDf (x.k=2)
 have e10:=uDf (x.k=10)
 have e3:=uDf (x.k=3)
 have e4:=uDf (x.k=4)
 have e5:=uDf (x.k=5)
 have e6:=uDf (x.k=6)
 have e7:=uDf (x.k=7)
 have e8:=uDf (x.k=8)
 have e9:=uDf (x.k=9)
 have e11:=uDf (x.k=11)
 have e12:=uDf (x.k=12)
 have e13:=uDt (x.k=13)
 have ho:=only_13 hk
 have hs:=same_sat x (only x) h1 (by rw[ho];exact nil_len) h2 (by rw[ho];exact nil_len)
 rw[ho] at hs
 rw[ho]
 refine uFN Tryz.func34 Tryz.ntmps34 ?_;intro w e X hC
 repeat first|refine uC ?_|refine uA1 (uI @e1 (uI @e2 (uI @e10 (uI @e3 (uI @e4 (uI @e5 (uI @e6 (uI @e7 (uI @e8 (uI @e9 (uI @e11 (uI @e12 @e13)))))))))))) ?_
 refine uR ?_;intro K hK
 refine uH ?_
 refine callF uTS (hs) uTS uTS uTS ?_;refine uS ?_
 refine hK _ ?_;clear hK K
 (refine awp_ret (ret1 uRT ?_);try rfl)
theorem only_0 {x:Acx} (n1:¬x.k=1) (n2:¬x.k=2) (n10:¬x.k=10) (n3:¬x.k=3) (n4:¬x.k=4) (n5:¬x.k=5) (n6:¬x.k=6) (n7:¬x.k=7) (n8:¬x.k=8) (n9:¬x.k=9) (n11:¬x.k=11) (n12:¬x.k=12) (n13:¬x.k=13):only x=⟨x.k,[],[],false,P0,0,0,false,[],R0,0,0,F0⟩:=by
 unfold only
 rw[if_neg (by omega),if_neg (by omega),if_neg (by omega),if_neg (by omega),if_neg (by omega),if_neg (by omega),if_neg (by omega),if_neg (by omega),if_neg (by omega),if_neg (by omega)]
 rfl
theorem spare_0 (x:Acx) (h1:x.mv.length<=1000000) (h2:x.gl.length<=1000000) (n1:¬x.k=1) (n2:¬x.k=2) (n10:¬x.k=10) (n3:¬x.k=3) (n4:¬x.k=4) (n5:¬x.k=5) (n6:¬x.k=6) (n7:¬x.k=7) (n8:¬x.k=8) (n9:¬x.k=9) (n11:¬x.k=11) (n12:¬x.k=12) (n13:¬x.k=13):SatG Tryz.prog tab 34 [] [x.av] [] (B (decide (x=only x))):=by
 have e1:=uDf (x.k=1)
 have e2:=uDf (x.k=2)
 have e10:=uDf (x.k=10)
 have e3:=uDf (x.k=3)
 have e4:=uDf (x.k=4)
 have e5:=uDf (x.k=5)
 have e6:=uDf (x.k=6)
 have e7:=uDf (x.k=7)
 have e8:=uDf (x.k=8)
 have e9:=uDf (x.k=9)
 have e11:=uDf (x.k=11)
 have e12:=uDf (x.k=12)
 have e13:=uDf (x.k=13)
 have ho:=only_0 n1 n2 n10 n3 n4 n5 n6 n7 n8 n9 n11 n12 n13
 have hs:=same_sat x (only x) h1 (by rw[ho];exact nil_len) h2 (by rw[ho];exact nil_len)
 rw[ho] at hs
 rw[ho]
 refine uFN Tryz.func34 Tryz.ntmps34 ?_;intro w e X hC
 repeat first|refine uC ?_|refine uA1 (uI @e1 (uI @e2 (uI @e10 (uI @e3 (uI @e4 (uI @e5 (uI @e6 (uI @e7 (uI @e8 (uI @e9 (uI @e11 (uI @e12 @e13)))))))))))) ?_
 refine uR ?_;intro K hK
 refine uH ?_
 refine callF uTS (hs) uTS uTS uTS ?_;refine uS ?_
 refine hK _ ?_;clear hK K
 (refine awp_ret (ret1 uRT ?_);try rfl)
theorem spare_sat (x:Acx) (h1:x.mv.length<=1000000) (h2:x.gl.length<=1000000):SatG Tryz.prog tab 34 [] [x.av] [] (B (decide (x=only x))):=by
 by_cases n1:x.k=1
 ·exact spare_1 x h1 h2 n1
 by_cases n2:x.k=2
 ·exact spare_2 x h1 h2 n2
 by_cases n10:x.k=10
 ·exact spare_10 x h1 h2 n10
 by_cases n3:x.k=3
 ·exact spare_3 x h1 h2 n3
 by_cases n4:x.k=4
 ·exact spare_4 x h1 h2 n4
 by_cases n5:x.k=5
 ·exact spare_5 x h1 h2 n5
 by_cases n6:x.k=6
 ·exact spare_6 x h1 h2 n6
 by_cases n7:x.k=7
 ·exact spare_7 x h1 h2 n7
 by_cases n8:x.k=8
 ·exact spare_8 x h1 h2 n8
 by_cases n9:x.k=9
 ·exact spare_9 x h1 h2 n9
 by_cases n11:x.k=11
 ·exact spare_11 x h1 h2 n11
 by_cases n12:x.k=12
 ·exact spare_12 x h1 h2 n12
 by_cases n13:x.k=13
 ·exact spare_13 x h1 h2 n13
 exact spare_0 x h1 h2 n1 n2 n10 n3 n4 n5 n6 n7 n8 n9 n11 n12 n13
open Go.Scr
def wrB (w:Wr):Hp:=[(0,some (0, .box [.slO 1 0 0 w.1.length,B w.2])),(1,some (0, .own 9 1 (strs w.1)))]
theorem wrB_eq (w:Wr):wrB w=[(0,some (0, .box [.slO 1 0 0 w.1.length,B w.2])),(1,some (0, .own 9 1 (strs w.1)))]:=rfl
attribute [go_sem] wrB_eq
theorem word_sat (v:Wr) (s:Bs) (hw:v.1.length<=1000000):SatG Tryz.prog tab 59 (wrB v) [.ptO 0 0 0 0 0,S (strOf s)] (wrB (wWord v s)) (.tup []):=by
 obtain⟨ws,fl⟩:=v
 have he:s.isEmpty=decide (s=[]):=by cases s<;>rfl
 simp only at hw
 unfold wWord
 rw[he]
 refine uFN Tryz.func59 Tryz.ntmps59 ?_;intro w e X hC
 cases fl with
 |true=>
  repeat refine uA ?_
  show ∃σ D,RetG _ Tryz.f59.results.toList σ D _ _ _;rw[show Tryz.f59.results.toList=[] from rfl];(refine retG [(0,0,0,0),(1,0,1,0)] uRG (by simp) (by simp) (by simp) uTG uTG uTG ?_ ?_;all_goals (first|refine uSG ?_|exact uXG|skip))
  simp only[wrB_eq,List.length_append,List.length_singleton,Bool.true_or,Bool.false_or]
 |false=>
  repeat refine uA ?_
  show ∃σ D,RetG _ Tryz.f59.results.toList σ D _ _ _;rw[show Tryz.f59.results.toList=[] from rfl];(refine retG [(0,0,0,0),(1,0,1,0)] uRG (by simp) (by simp) (by simp) uTG uTG uTG ?_ ?_;all_goals (first|refine uSG ?_|exact uXG|skip))
theorem wWord_len (v:Wr) (s:Bs):(wWord v s).1.length=v.1.length+1:=by simp[wWord]
theorem wNums_len (v:Wr):∀l:List Int,(wNums v l).1.length=v.1.length+l.length
 |[]=>rfl
 |n::l=>by
  have:=wNums_len (wWord v (decW n)) l
  rw[wWord_len] at this
  show(wNums (wWord v (decW n)) l).1.length=_
  rw[this,List.length_cons];omega
theorem wNums_step (v:Wr) {l:List Int} {i:Nat} (h:i<l.length):wNums v (l.take (i+1))=wWord (wNums v (l.take i)) (decW (l.getD i 0)):=by
 unfold wNums
 rw[List.take_add_one,List.getD_eq_getElem?_getD,List.getElem?_eq_getElem h,List.foldl_append]
 rfl
theorem nums_sat (v:Wr) (l:List Int) (hw:v.1.length<=900000) (hl:l.length<=1000):SatG Tryz.prog tab 62 (wrB v) [.ptO 0 0 0 0 0,IS l] (wrB (wNums v l)) (.tup []):=by
 refine uFN Tryz.func62 Tryz.ntmps62 ?_;intro w e X hC
 repeat refine uA ?_
 refine uW ?_
 refine awp_loopW (fun i:Nat×Nat=>⟨[(0, .ptO 0 0 0 0 0),(6,IS l),(7,I l.length),(8,I i.2)],wrB (wNums v (l.take i.2)),i.1⟩) (fun i=>i.2<=l.length) (fun i=>l.length - i.2) (_,0) (Nat.zero_le _) (uKF) ?_
 rintro⟨ck,i⟩ hi
 simp only at hi
 have hv:=wNums_len v (l.take i)
 rw[List.length_take] at hv
 repeat refine uA ?_
 refine uW ?_;refine condP _ rfl (fun h=>?_) (fun h=>?_)
 ·have hlt:i<l.length:=by omega
  have hst:=wNums_step v hlt
  have hw1:=word_sat (wNums v (l.take i)) (decW (l.getD i 0)) (by omega)
  rw[<-hst] at hw1
  have hd:=decimal_sat (l.getD i 0)
  refine uA1 (ints_getD hlt) ?_
  refine uR ?_;intro K hK
  refine callF uTS (hd) uTS uTS uTS ?_;refine uS ?_
  refine callE [(0,0,0,0),(1,0,1,0)] [(0,0,0,0),(1,0,1,0)] true (hw1) uTR uTR uTE uTE uTE uTE uTE uTE uTE uTE uTE uTE uTE uTE uTE uTE uTE ?_;refine uQS ?_
  refine hK _ ?_;clear hK K
  repeat refine uA ?_
  refine⟨(_,i+1),by simp only;omega,by simp only;omega,uKF⟩
 ·refine awp_exit ?_
  have:i=l.length:=by omega
  subst this
  rw[List.take_length]
  show ∃σ D,RetG _ Tryz.f62.results.toList σ D _ _ _;rw[show Tryz.f62.results.toList=[] from rfl];(refine retG [(0,0,0,0),(1,0,1,0)] uRG (by simp) (by simp) (by simp) uTG uTG uTG ?_ ?_;all_goals (first|refine uSG ?_|exact uXG|skip))
open Go.Scr
theorem decW_nil (n:Int):decide (decW n=[])=!numB n:=by
 unfold decW
 cases h:numB n with
 |false=>rfl
 |true=>exact decide_eq_false (dec_ne _)
theorem faultN_len (k:Int):(faultN k).length<=6:=by
 unfold faultN
 repeat (split;exact Nat.le_of_ble_eq_true rfl)
 exact Nat.zero_le _
theorem wFault_str (f:Flaw):strOf (faultN f.k)++({data:=#[58]}:ByteArray)++strOf (decW f.n)++({data:=#[58]}:ByteArray)++strOf (decW f.w)=strOf (wFault f):=by
 rw[show({data:=#[58]}:ByteArray)=strOf [58] from rfl,str_app,str_app,str_app,str_app];rfl
theorem wFault_len (f:Flaw):(wFault f).length<=20:=by
 have h1:=decW_len f.n
 have h2:=decW_len f.w
 have h3:(faultN f.k).length<=6:=by
  unfold faultN
  repeat (split;exact Nat.le_of_ble_eq_true rfl)
  exact Nat.zero_le _
 simp only[wFault,List.length_append,List.length_singleton]
 omega
def tabF:List Bs:=[[],faultN 1,faultN 2,faultN 3,faultN 4,faultN 5,faultN 6]
theorem gl1:glu tab.gl 1=some (strs tabF):=by rfl
theorem faultN_tab {k:Int} (h1:1<=k) (h2:k<=6):(strs tabF).drop (k.toNat*1)=S (strOf (faultN k))::strs (tabF.drop (k.toNat+1)):=by
 rcases(by omega:k=1\/k=2\/k=3\/k=4\/k=5\/k=6) with rfl|rfl|rfl|rfl|rfl|rfl<;>rfl
theorem wfaults_sat (v:Wr) (l:List Flaw) (lo up:Int) (hw:v.1.length<=900000) (hl:l.length<=1000) (h1:1<=lo) (h6:up<=6):SatG Tryz.prog tab 60 (wrB v) [.ptO 0 0 0 0 0, .sl (flaws l) false,I lo,I up] (wrB (wFaults lo up l v)) (.tup []):=by
 refine uFN Tryz.func60 Tryz.ntmps60 ?_;intro w e X hC
 repeat refine uA ?_
 refine uW ?_
 refine awp_loopW (fun i:Nat×Nat×Wr=>⟨[(0, .ptO 0 0 0 0 0),(2,I lo),(3,I up),(12, .sl (flaws l) false),(13,I l.length),(14,I i.2.1)],wrB i.2.2,i.1⟩) (fun i=>i.2.1<=l.length/\i.2.2.1.length=v.1.length+i.2.1/\wFaults lo up (l.drop i.2.1) i.2.2=wFaults lo up l v) (fun i=>l.length - i.2.1) (_,0,v) ⟨Nat.zero_le _,rfl,rfl⟩ (uKF) ?_
 rintro⟨ck,i,u⟩ ⟨hi,hu,hv⟩
 simp only at hi hu hv
 repeat refine uA ?_
 refine uW ?_;refine condP _ rfl (fun h=>?_) (fun h=>?_)
 ·have hlt:i<l.length:=by omega
  have hd:l.drop i=l.getD i default::l.drop (i+1):=by
   rw[List.drop_eq_getElem_cons hlt,List.getD_eq_getElem?_getD,List.getElem?_eq_getElem hlt];rfl
  rw[hd,wFaults] at hv
  refine uA1 (flaws_getD hlt) ?_
  generalize l.getD i default=f at*
  have g1:=decimal_sat f.n
  have g2:=decimal_sat f.w
  have q1:=decW_nil f.n
  have q2:=decW_nil f.w
  refine uE ?_;intro K hK
  refine callF uTS (g1) uTS uTS uTS ?_;refine uS ?_
  refine callF uTS (g2) uTS uTS uTS ?_;refine uS ?_
  refine uH ?_
  refine hK _ ?_;clear hK K
  by_cases c1:f.k<lo
  ·have e1:decide (f.k<lo)=true:=decide_eq_true c1
   have hb:flawB lo up f=false:=by unfold flawB;rw[decide_eq_false (by omega)];rfl
   rw[if_neg (by rw[hb];decide)] at hv
   rw[<-hv]
   repeat refine uA1 @e1 ?_
   refine uT ?_
   repeat refine uA ?_
   refine awp_ret ?_;rw[show Tryz.f60.results.toList=[] from rfl];(refine retG [(0,0,0,0),(1,0,1,0)] uRG (by simp) (by simp) (by simp) uTG uTG uTG ?_ ?_;all_goals (first|refine uSG ?_|exact uXG|skip))
  have e1:decide (f.k<lo)=false:=decide_eq_false c1
  by_cases c2:up<f.k
  ·have e2:decide (up<f.k)=true:=decide_eq_true c2
   have hb:flawB lo up f=false:=by unfold flawB;rw[decide_eq_false (by omega)];rfl
   rw[if_neg (by rw[hb];decide)] at hv
   rw[<-hv]
   repeat refine uA1 (uI @e1 @e2) ?_
   refine uT ?_
   repeat refine uA ?_
   refine awp_ret ?_;rw[show Tryz.f60.results.toList=[] from rfl];(refine retG [(0,0,0,0),(1,0,1,0)] uRG (by simp) (by simp) (by simp) uTG uTG uTG ?_ ?_;all_goals (first|refine uSG ?_|exact uXG|skip))
  have e2:decide (up<f.k)=false:=decide_eq_false c2
  cases c3:numB f.n with
  |false=>
   rw[c3] at q1
   have hb:flawB lo up f=false:=by unfold flawB;rw[c3,Bool.and_false];rfl
   rw[if_neg (by rw[hb];decide)] at hv
   rw[<-hv]
   repeat refine uA1 (uI @e1 (uI @e2 @q1)) ?_
   refine uT ?_
   repeat refine uA ?_
   refine awp_ret ?_;rw[show Tryz.f60.results.toList=[] from rfl];(refine retG [(0,0,0,0),(1,0,1,0)] uRG (by simp) (by simp) (by simp) uTG uTG uTG ?_ ?_;all_goals (first|refine uSG ?_|exact uXG|skip))
  |true=>
   rw[c3] at q1
   cases c4:numB f.w with
   |false=>
    rw[c4] at q2
    have hb:flawB lo up f=false:=by unfold flawB;rw[c4,Bool.and_false]
    rw[if_neg (by rw[hb];decide)] at hv
    rw[<-hv]
    repeat refine uA1 (uI @e1 (uI @e2 (uI @q1 @q2))) ?_
    refine uT ?_
    repeat refine uA ?_
    refine awp_ret ?_;rw[show Tryz.f60.results.toList=[] from rfl];(refine retG [(0,0,0,0),(1,0,1,0)] uRG (by simp) (by simp) (by simp) uTG uTG uTG ?_ ?_;all_goals (first|refine uSG ?_|exact uXG|skip))
   |true=>
    rw[c4] at q2
    have hb:flawB lo up f=true:=by unfold flawB;rw[c3,c4,decide_eq_true (by omega)];rfl
    rw[if_pos hb] at hv
    have hwl:=wWord_len u (wFault f)
    have hw1:=word_sat u (wFault f) (by omega)
    repeat refine uA1 (uI @e1 (uI @e2 (uI @q1 @q2))) ?_
    refine uF ?_
    have ht:=faultN_tab (k:=f.k) (by omega) (by omega)
    have hwf:=wFault_len f
    have l1:=faultN_len f.k
    have l2:=decW_len f.n
    have l3:=decW_len f.w
    have hst:=wFault_str f
    refine uR1 (uI @gl1 (uI @ht @hst)) ?_;intro K hK
    refine⟨by omega,by omega,by omega,by omega,by omega,?_⟩
    refine callE [(0,0,0,0),(1,0,1,0)] [(0,0,0,0),(1,0,1,0)] true (hw1) uTR uTR uTE uTE uTE uTE uTE uTE uTE uTE uTE uTE uTE uTE uTE uTE uTE ?_;refine uQS ?_
    refine hK _ ?_;clear hK K
    repeat refine uA ?_
    refine⟨(_,i+1,wWord u (wFault f)),⟨by simp only;omega,by simp only;omega,hv⟩,by simp only;omega,uKF⟩
 ·refine awp_exit ?_
  have:i=l.length:=by omega
  subst this
  rw[List.drop_length,show wFaults lo up [] u=u from rfl] at hv
  rw[<-hv]
  show ∃σ D,RetG _ Tryz.f60.results.toList σ D _ _ _;rw[show Tryz.f60.results.toList=[] from rfl];(refine retG [(0,0,0,0),(1,0,1,0)] uRG (by simp) (by simp) (by simp) uTG uTG uTG ?_ ?_;all_goals (first|refine uSG ?_|exact uXG|skip))
open Go.Scr
def txtC (c:UInt8):Bool:=decide (c.toNat=10\/(32<=c.toNat/\c.toNat<=126/\c.toNat≠124))
theorem txtB_step {s:Bs} {i:Nat} (h:i<s.length):txtB (s.take (i+1))=(txtB (s.take i)&&txtC (s.getD i 0)):=by
 unfold txtB
 rw[take_snoc h,List.all_append,List.all_cons,List.all_nil,Bool.and_true]
 rfl
theorem txtB_nil:txtB []=true:=rfl
theorem wmsg_sat (v:Wr) (s:Bs) (hw:v.1.length<=900000) (hs:s.length<=1000000):SatG Tryz.prog tab 63 (wrB v) [.ptO 0 0 0 0 0,S (strOf s)] (wrB (wMsg v s)) (.tup []):=by
 refine uFN Tryz.func63 Tryz.ntmps63 ?_;intro w e X hC
 repeat refine uA ?_
 refine uW ?_
 refine awp_loopW (fun i:Nat×Nat=>⟨[(0, .ptO 0 0 0 0 0),(1,S (strOf s)),(6,I s.length),(7,I i.2)],wrB (v.1,v.2||!txtB (s.take i.2)),i.1⟩) (fun i=>i.2<=s.length) (fun i=>s.length - i.2) (_,0) (Nat.zero_le _) (.of (Nat.le_refl _) (uHF1 @txtB_nil) uWF) ?_
 rintro⟨ck,i⟩ hi
 simp only at hi
 repeat refine uA ?_
 refine uW ?_;refine condP _ rfl (fun h=>?_) (fun h=>?_)
 ·have hlt:i<s.length:=by omega
  have hst:=txtB_step hlt
  generalize hc:s.getD i 0=c at*
  have hgood:txtC c=true->(v.2||!txtB (s.take (i+1)))=(v.2||!txtB (s.take i)):=fun h=>by rw[hst,h,Bool.and_true]
  have hbad:txtC c=false->(v.2||!txtB (s.take (i+1)))=true:=fun h=>by rw[hst,h,Bool.and_false];exact Bool.or_true _
  refine uA ?_
  by_cases c1:c.toNat=10
  ·have e1:(decide ¬((c.toNat:Nat):Int)=10)=false:=decide_eq_false (by omega)
   have hg:=hgood (decide_eq_true (.inl c1))
   refine uR1 (uI @hc @e1) ?_;intro K hK
   refine uH ?_
   refine hK _ ?_;clear hK K
   refine uF ?_
   repeat refine uA ?_
   refine⟨(_,i+1),by simp only;omega,by simp only;omega, .of (Nat.le_refl _) (uHF1 @hg) uWF⟩
  ·have e1:(decide ¬((c.toNat:Nat):Int)=10)=true:=decide_eq_true (by omega)
   by_cases c2:c.toNat<32
   ·have e2:=uDt (((c.toNat:Nat):Int)<32)
    have hb:=hbad (decide_eq_false (by omega))
    refine uR1 (uI @hc (uI @e1 @e2)) ?_;intro K hK
    refine uH ?_
    refine hK _ ?_;clear hK K
    refine uT ?_
    repeat refine uA ?_
    refine⟨(_,i+1),by simp only;omega,by simp only;omega, .of (Nat.le_refl _) (uHF1 @hb) uWF⟩
   ·have e2:=uDf (((c.toNat:Nat):Int)<32)
    by_cases c3:126<c.toNat
    ·have e3:=uDt (126<((c.toNat:Nat):Int))
     have hb:=hbad (decide_eq_false (by omega))
     refine uR1 (uI @hc (uI @e1 (uI @e2 @e3))) ?_;intro K hK
     refine uH ?_
     refine hK _ ?_;clear hK K
     refine uT ?_
     repeat refine uA ?_
     refine⟨(_,i+1),by simp only;omega,by simp only;omega, .of (Nat.le_refl _) (uHF1 @hb) uWF⟩
    ·have e3:=uDf (126<((c.toNat:Nat):Int))
     by_cases c4:c.toNat=124
     ·have e4:=uDt (((c.toNat:Nat):Int)=124)
      have hb:=hbad (decide_eq_false (by omega))
      refine uR1 (uI @hc (uI @e1 (uI @e2 (uI @e3 @e4)))) ?_;intro K hK
      refine uH ?_
      refine hK _ ?_;clear hK K
      refine uT ?_
      repeat refine uA ?_
      refine⟨(_,i+1),by simp only;omega,by simp only;omega, .of (Nat.le_refl _) (uHF1 @hb) uWF⟩
     ·have e4:=uDf (((c.toNat:Nat):Int)=124)
      have hg:=hgood (decide_eq_true (.inr ⟨by omega,by omega,c4⟩))
      refine uR1 (uI @hc (uI @e1 (uI @e2 (uI @e3 @e4)))) ?_;intro K hK
      refine uH ?_
      refine hK _ ?_;clear hK K
      refine uF ?_
      repeat refine uA ?_
      refine⟨(_,i+1),by simp only;omega,by simp only;omega, .of (Nat.le_refl _) (uHF1 @hg) uWF⟩
 ·refine awp_exit ?_
  have:i=s.length:=by omega
  subst this
  rw[List.take_length]
  have hcl:=Lib.count_le s [10]
  have hr:=replaceAll_sat s [10] [124] (by omega) (by decide) (by
   show s.length+Lib.count (strOf s).data.toList (strOf [10]).data.toList*1<=_
   rw[str_list,str_list];omega)
  rw[replaceAll_eq (by decide)] at hr
  refine uD ?_;intro K hK
  refine uH ?_
  refine callF uTS (hr) uTS uTS uTS ?_;refine uS ?_
  refine uH ?_
  refine hK _ ?_;clear hK K
  unfold wMsg
  show ∃σ D,RetG _ Tryz.f63.results.toList σ D _ _ _;rw[show Tryz.f63.results.toList=[] from rfl];(refine retG [(0,0,0,0),(1,0,1,0)] uRG (by simp) (by simp) (by simp) uTG uTG uTG ?_ ?_;all_goals (first|refine uSG ?_|exact uXG|skip))
abbrev _root_.Go.Scr.Rev.av (r:Rev):AV:= .agg [I r.k,I r.amt,S (strOf r.flt.car),I r.flt.num,S (strOf r.flt.suf),I r.flt.day]
def tabR:List Bs:=[[],revN 1,revN 2,revN 3,revN 4,revN 5]
theorem gl2:glu tab.gl 2=some (strs tabR):=by rfl
theorem revN_tab {k:Int} (h1:1<=k) (h2:k<=5):(strs tabR).drop (k.toNat*1)=S (strOf (revN k))::strs (tabR.drop (k.toNat+1)):=by
 rcases(by omega:k=1\/k=2\/k=3\/k=4\/k=5) with rfl|rfl|rfl|rfl|rfl<;>rfl
theorem wrev_sat (v:Wr) (r:Rev) (hw:v.1.length<=800000) (h1:r.flt.car.length<=1000000) (h2:r.flt.suf.length<=1000000):SatG Tryz.prog tab 64 (wrB v) [.ptO 0 0 0 0 0,r.av] (wrB (wRev v r)) (.tup []):=by
 unfold wRev
 refine uFN Tryz.func64 Tryz.ntmps64 ?_;intro w e X hC
 repeat refine uA ?_
 by_cases c1:r.k<1
 ·have e1:decide (r.k<1)=true:=decide_eq_true c1
  rw[if_neg (by omega)]
  repeat refine uA1 @e1 ?_
  refine uT ?_
  repeat refine uA ?_
  refine awp_ret ?_;rw[show Tryz.f64.results.toList=[] from rfl];(refine retG [(0,0,0,0),(1,0,1,0)] uRG (by simp) (by simp) (by simp) uTG uTG uTG ?_ ?_;all_goals (first|refine uSG ?_|exact uXG|skip))
 have e1:decide (r.k<1)=false:=decide_eq_false c1
 by_cases c2:5<r.k
 ·have e2:decide (5<r.k)=true:=decide_eq_true c2
  rw[if_neg (by omega)]
  repeat refine uA1 (uI @e1 @e2) ?_
  refine uT ?_
  repeat refine uA ?_
  refine awp_ret ?_;rw[show Tryz.f64.results.toList=[] from rfl];(refine retG [(0,0,0,0),(1,0,1,0)] uRG (by simp) (by simp) (by simp) uTG uTG uTG ?_ ?_;all_goals (first|refine uSG ?_|exact uXG|skip))
 have e2:decide (5<r.k)=false:=decide_eq_false c2
 rw[if_pos (by omega)]
 have ht:=revN_tab (k:=r.k) (by omega) (by omega)
 have hf:=fformat_sat r.flt h1 h2
 have w1:=word_sat v (revN r.k) (by omega)
 have w2:=word_sat (wWord v (revN r.k)) r.flt.fmt (by rw[wWord_len];omega)
 have w3:=nums_sat (wWord (wWord v (revN r.k)) r.flt.fmt) [r.amt] (by rw[wWord_len,wWord_len];omega) (by simp)
 generalize wWord v (revN r.k)=u at*
 generalize wWord u r.flt.fmt=x at*
 repeat refine uA1 (uI @e1 @e2) ?_
 refine uF ?_
 refine uR1 (uI @gl2 @ht) ?_;intro K hK
 refine uH ?_
 refine callE [(0,0,0,0),(1,0,1,0)] [(0,0,0,0),(1,0,1,0)] true (w1) uTR uTR uTE uTE uTE uTE uTE uTE uTE uTE uTE uTE uTE uTE uTE uTE uTE ?_;refine uQS ?_
 refine hK _ ?_;clear hK K
 refine uR ?_;intro K hK
 refine uH ?_
 refine callF uTS (hf) uTS uTS uTS ?_;refine uS ?_
 refine callE [(0,0,0,0),(1,0,1,0)] [(0,0,0,0),(1,0,1,0)] true (w2) uTR uTR uTE uTE uTE uTE uTE uTE uTE uTE uTE uTE uTE uTE uTE uTE uTE ?_;refine uQS ?_
 refine hK _ ?_;clear hK K
 by_cases c4:r.k=4
 ·have e4:decide (r.k=4)=true:=decide_eq_true c4
  rw[if_pos (by omega)]
  obtain⟨xs,xf⟩:=x
  cases xf with
  |true=>
   repeat first|refine uC ?_|refine uA1 @e4 ?_
   show ∃σ D,RetG _ Tryz.f64.results.toList σ D _ _ _;rw[show Tryz.f64.results.toList=[] from rfl];(refine retG [(0,0,0,0),(1,0,1,0)] uRG (by simp) (by simp) (by simp) uTG uTG uTG ?_ ?_;all_goals (first|refine uSG ?_|exact uXG|skip))
   simp only[Bool.true_or]
  |false=>
   repeat first|refine uC ?_|refine uA1 @e4 ?_
   show ∃σ D,RetG _ Tryz.f64.results.toList σ D _ _ _;rw[show Tryz.f64.results.toList=[] from rfl];(refine retG [(0,0,0,0),(1,0,1,0)] uRG (by simp) (by simp) (by simp) uTG uTG uTG ?_ ?_;all_goals (first|refine uSG ?_|exact uXG|skip))
   simp only[wrB_eq,Bool.false_or,decide_not]
 have e4:decide (r.k=4)=false:=decide_eq_false c4
 by_cases c5:r.k=5
 ·have e5:decide (r.k=5)=true:=decide_eq_true c5
  rw[if_pos (by omega)]
  obtain⟨xs,xf⟩:=x
  cases xf with
  |true=>
   repeat first|refine uC ?_|refine uA1 (uI @e4 @e5) ?_
   show ∃σ D,RetG _ Tryz.f64.results.toList σ D _ _ _;rw[show Tryz.f64.results.toList=[] from rfl];(refine retG [(0,0,0,0),(1,0,1,0)] uRG (by simp) (by simp) (by simp) uTG uTG uTG ?_ ?_;all_goals (first|refine uSG ?_|exact uXG|skip))
   simp only[Bool.true_or]
  |false=>
   repeat first|refine uC ?_|refine uA1 (uI @e4 @e5) ?_
   show ∃σ D,RetG _ Tryz.f64.results.toList σ D _ _ _;rw[show Tryz.f64.results.toList=[] from rfl];(refine retG [(0,0,0,0),(1,0,1,0)] uRG (by simp) (by simp) (by simp) uTG uTG uTG ?_ ?_;all_goals (first|refine uSG ?_|exact uXG|skip))
   simp only[wrB_eq,Bool.false_or,decide_not]
 have e5:decide (r.k=5)=false:=decide_eq_false c5
 rw[if_neg (by omega)]
 repeat first|refine uC ?_|refine uA1 (uI @e4 @e5) ?_
 refine uR ?_;intro K hK
 refine uH ?_
 refine callE [(0,0,0,0),(1,0,1,0)] [(0,0,0,0),(1,0,1,0)] true (w3) uTR uTR uTE uTE uTE uTE uTE uTE uTE uTE uTE uTE uTE uTE uTE uTE uTE ?_;refine uQS ?_
 refine hK _ ?_;clear hK K
 show ∃σ D,RetG _ Tryz.f64.results.toList σ D _ _ _;rw[show Tryz.f64.results.toList=[] from rfl];(refine retG [(0,0,0,0),(1,0,1,0)] uRG (by simp) (by simp) (by simp) uTG uTG uTG ?_ ?_;all_goals (first|refine uSG ?_|exact uXG|skip))
open Go.Scr
def tabP:List Bs:=[[],[],[],[],[],[],sBreak,sRepair,[],[],[],sOffline,sOnline]
theorem gl0:glu tab.gl 0=some (strs tabP):=by rfl
theorem wFaults_len (lo hi:Int):∀(l:List Flaw) (w:Wr),(wFaults lo hi l w).1.length<=w.1.length+l.length
 |[],_=>Nat.le_refl _
 |f::r,w=>by
  rw[wFaults]
  split
  ·have:=wFaults_len lo hi r (wWord w (wFault f))
   rw[wWord_len] at this
   rw[List.length_cons];omega
  ·exact Nat.le_add_right _ _
theorem wact_0 (v:Wr) (x:Acx) (hw:v.1.length<=1000) (h1:x.mv.length<=1000) (h2:x.gl.length<=1000) (h3:x.txt.length<=1000000) (h4:x.rev.flt.car.length<=1000000) (h5:x.rev.flt.suf.length<=1000000) (h6:x.flt.car.length<=1000000) (h7:x.flt.suf.length<=1000000) (n1:¬x.k=1) (n2:¬x.k=2) (n3:¬x.k=3) (n4:¬x.k=4) (n5:¬x.k=5) (n6:¬x.k=6) (n7:¬x.k=7) (n8:¬x.k=8) (n9:¬x.k=9) (n10:¬x.k=10) (n11:¬x.k=11) (n12:¬x.k=12) (n13:¬x.k=13):SatG Tryz.prog tab 35 (wrB v) [.ptO 0 0 0 0 0,x.av] (wrB (wWord v sCrash)) (.tup []):=by
 have e1:=uDf (x.k=1)
 have e2:=uDf (x.k=2)
 have e3:=uDf (x.k=3)
 have e4:=uDf (x.k=4)
 have e5:=uDf (x.k=5)
 have e6:=uDf (x.k=6)
 have e7:=uDf (x.k=7)
 have e8:=uDf (x.k=8)
 have e9:=uDf (x.k=9)
 have e10:=uDf (x.k=10)
 have e11:=uDf (x.k=11)
 have e12:=uDf (x.k=12)
 have e13:=uDf (x.k=13)
 have w1:=word_sat v sCrash (by omega)
 have k1:=wWord_len v sCrash
 generalize wWord v sCrash=u1 at*
 refine uFN Tryz.func35 Tryz.ntmps35 ?_;intro w e X hC
 repeat first|refine uC ?_|refine uA1 (uI @e1 (uI @e2 (uI @e3 (uI @e4 (uI @e5 (uI @e6 (uI @e7 (uI @e8 (uI @e9 (uI @e10 (uI @e11 (uI @e12 @e13)))))))))))) ?_
 refine uR ?_;intro K hK
 refine uH ?_
 refine callE [(0,0,0,0),(1,0,1,0)] [(0,0,0,0),(1,0,1,0)] true (w1) uTR uTR uTE uTE uTE uTE uTE uTE uTE uTE uTE uTE uTE uTE uTE uTE uTE ?_;refine uQS ?_
 refine hK _ ?_;clear hK K
 show ∃σ D,RetG _ Tryz.f35.results.toList σ D _ _ _;rw[show Tryz.f35.results.toList=[] from rfl];(refine retG [(0,0,0,0),(1,0,1,0)] uRG (by simp) (by simp) (by simp) uTG uTG uTG ?_ ?_;all_goals (first|refine uSG ?_|exact uXG|skip))
theorem wact_2 (v:Wr) (x:Acx) (hw:v.1.length<=1000) (h1:x.mv.length<=1000) (h2:x.gl.length<=1000) (h3:x.txt.length<=1000000) (h4:x.rev.flt.car.length<=1000000) (h5:x.rev.flt.suf.length<=1000000) (h6:x.flt.car.length<=1000000) (h7:x.flt.suf.length<=1000000) (hk:x.k=2):SatG Tryz.prog tab 35 (wrB v) [.ptO 0 0 0 0 0,x.av] (wrB (wNums (wWord (wWord v sInduct) x.plt.fmt) [x.node])) (.tup []):=by
 have e1:=uDf (x.k=1)
 have e2:=uDt (x.k=2)
 have e3:=uDf (x.k=3)
 have e4:=uDf (x.k=4)
 have e5:=uDf (x.k=5)
 have e6:=uDf (x.k=6)
 have e7:=uDf (x.k=7)
 have e8:=uDf (x.k=8)
 have e9:=uDf (x.k=9)
 have e10:=uDf (x.k=10)
 have e11:=uDf (x.k=11)
 have e12:=uDf (x.k=12)
 have e13:=uDf (x.k=13)
 have hp:=pformat_sat x.plt
 have w1:=word_sat v sInduct (by omega)
 have k1:=wWord_len v sInduct
 generalize wWord v sInduct=u1 at*
 have w2:=word_sat u1 x.plt.fmt (by omega)
 have k2:=wWord_len u1 x.plt.fmt
 generalize wWord u1 x.plt.fmt=u2 at*
 have w3:=nums_sat u2 [x.node] (by omega) (by simp)
 have k3:=wNums_len u2 [x.node]
 simp only[List.length_cons,List.length_nil] at k3
 generalize wNums u2 [x.node]=u3 at*
 refine uFN Tryz.func35 Tryz.ntmps35 ?_;intro w e X hC
 repeat first|refine uC ?_|refine uA1 (uI @e1 (uI @e2 (uI @e3 (uI @e4 (uI @e5 (uI @e6 (uI @e7 (uI @e8 (uI @e9 (uI @e10 (uI @e11 (uI @e12 @e13)))))))))))) ?_
 refine uR ?_;intro K hK
 refine uH ?_
 refine callE [(0,0,0,0),(1,0,1,0)] [(0,0,0,0),(1,0,1,0)] true (w1) uTR uTR uTE uTE uTE uTE uTE uTE uTE uTE uTE uTE uTE uTE uTE uTE uTE ?_;refine uQS ?_
 refine hK _ ?_;clear hK K
 refine uR ?_;intro K hK
 refine uH ?_
 refine callF uTS (hp) uTS uTS uTS ?_;refine uS ?_
 refine callE [(0,0,0,0),(1,0,1,0)] [(0,0,0,0),(1,0,1,0)] true (w2) uTR uTR uTE uTE uTE uTE uTE uTE uTE uTE uTE uTE uTE uTE uTE uTE uTE ?_;refine uQS ?_
 refine hK _ ?_;clear hK K
 refine uR ?_;intro K hK
 refine uH ?_
 refine callE [(0,0,0,0),(1,0,1,0)] [(0,0,0,0),(1,0,1,0)] true (w3) uTR uTR uTE uTE uTE uTE uTE uTE uTE uTE uTE uTE uTE uTE uTE uTE uTE ?_;refine uQS ?_
 refine hK _ ?_;clear hK K
 show ∃σ D,RetG _ Tryz.f35.results.toList σ D _ _ _;rw[show Tryz.f35.results.toList=[] from rfl];(refine retG [(0,0,0,0),(1,0,1,0)] uRG (by simp) (by simp) (by simp) uTG uTG uTG ?_ ?_;all_goals (first|refine uSG ?_|exact uXG|skip))
theorem wact_3 (v:Wr) (x:Acx) (hw:v.1.length<=1000) (h1:x.mv.length<=1000) (h2:x.gl.length<=1000) (h3:x.txt.length<=1000000) (h4:x.rev.flt.car.length<=1000000) (h5:x.rev.flt.suf.length<=1000000) (h6:x.flt.car.length<=1000000) (h7:x.flt.suf.length<=1000000) (hk:x.k=3):SatG Tryz.prog tab 35 (wrB v) [.ptO 0 0 0 0 0,x.av] (wrB (wMsg (wWord v sMessage) x.txt)) (.tup []):=by
 have e1:=uDf (x.k=1)
 have e2:=uDf (x.k=2)
 have e3:=uDt (x.k=3)
 have e4:=uDf (x.k=4)
 have e5:=uDf (x.k=5)
 have e6:=uDf (x.k=6)
 have e7:=uDf (x.k=7)
 have e8:=uDf (x.k=8)
 have e9:=uDf (x.k=9)
 have e10:=uDf (x.k=10)
 have e11:=uDf (x.k=11)
 have e12:=uDf (x.k=12)
 have e13:=uDf (x.k=13)
 have w1:=word_sat v sMessage (by omega)
 have k1:=wWord_len v sMessage
 generalize wWord v sMessage=u1 at*
 have w2:=wmsg_sat u1 x.txt (by omega) h3
 generalize wMsg u1 x.txt=u2 at*
 refine uFN Tryz.func35 Tryz.ntmps35 ?_;intro w e X hC
 repeat first|refine uC ?_|refine uA1 (uI @e1 (uI @e2 (uI @e3 (uI @e4 (uI @e5 (uI @e6 (uI @e7 (uI @e8 (uI @e9 (uI @e10 (uI @e11 (uI @e12 @e13)))))))))))) ?_
 refine uR ?_;intro K hK
 refine uH ?_
 refine callE [(0,0,0,0),(1,0,1,0)] [(0,0,0,0),(1,0,1,0)] true (w1) uTR uTR uTE uTE uTE uTE uTE uTE uTE uTE uTE uTE uTE uTE uTE uTE uTE ?_;refine uQS ?_
 refine hK _ ?_;clear hK K
 refine uR ?_;intro K hK
 refine uH ?_
 refine callE [(0,0,0,0),(1,0,1,0)] [(0,0,0,0),(1,0,1,0)] true (w2) uTR uTR uTE uTE uTE uTE uTE uTE uTE uTE uTE uTE uTE uTE uTE uTE uTE ?_;refine uQS ?_
 refine hK _ ?_;clear hK K
 show ∃σ D,RetG _ Tryz.f35.results.toList σ D _ _ _;rw[show Tryz.f35.results.toList=[] from rfl];(refine retG [(0,0,0,0),(1,0,1,0)] uRG (by simp) (by simp) (by simp) uTG uTG uTG ?_ ?_;all_goals (first|refine uSG ?_|exact uXG|skip))
theorem wact_5 (v:Wr) (x:Acx) (hw:v.1.length<=1000) (h1:x.mv.length<=1000) (h2:x.gl.length<=1000) (h3:x.txt.length<=1000000) (h4:x.rev.flt.car.length<=1000000) (h5:x.rev.flt.suf.length<=1000000) (h6:x.flt.car.length<=1000000) (h7:x.flt.suf.length<=1000000) (hk:x.k=5):SatG Tryz.prog tab 35 (wrB v) [.ptO 0 0 0 0 0,x.av] (wrB (wRev v x.rev)) (.tup []):=by
 have e1:=uDf (x.k=1)
 have e2:=uDf (x.k=2)
 have e3:=uDf (x.k=3)
 have e4:=uDf (x.k=4)
 have e5:=uDt (x.k=5)
 have e6:=uDf (x.k=6)
 have e7:=uDf (x.k=7)
 have e8:=uDf (x.k=8)
 have e9:=uDf (x.k=9)
 have e10:=uDf (x.k=10)
 have e11:=uDf (x.k=11)
 have e12:=uDf (x.k=12)
 have e13:=uDf (x.k=13)
 have w1:=wrev_sat v x.rev (by omega) h4 h5
 generalize wRev v x.rev=u1 at*
 refine uFN Tryz.func35 Tryz.ntmps35 ?_;intro w e X hC
 repeat first|refine uC ?_|refine uA1 (uI @e1 (uI @e2 (uI @e3 (uI @e4 (uI @e5 (uI @e6 (uI @e7 (uI @e8 (uI @e9 (uI @e10 (uI @e11 (uI @e12 @e13)))))))))))) ?_
 refine uR ?_;intro K hK
 refine uH ?_
 refine callE [(0,0,0,0),(1,0,1,0)] [(0,0,0,0),(1,0,1,0)] true (w1) uTR uTR uTE uTE uTE uTE uTE uTE uTE uTE uTE uTE uTE uTE uTE uTE uTE ?_;refine uQS ?_
 refine hK _ ?_;clear hK K
 show ∃σ D,RetG _ Tryz.f35.results.toList σ D _ _ _;rw[show Tryz.f35.results.toList=[] from rfl];(refine retG [(0,0,0,0),(1,0,1,0)] uRG (by simp) (by simp) (by simp) uTG uTG uTG ?_ ?_;all_goals (first|refine uSG ?_|exact uXG|skip))
theorem wact_6 (v:Wr) (x:Acx) (hw:v.1.length<=1000) (h1:x.mv.length<=1000) (h2:x.gl.length<=1000) (h3:x.txt.length<=1000000) (h4:x.rev.flt.car.length<=1000000) (h5:x.rev.flt.suf.length<=1000000) (h6:x.flt.car.length<=1000000) (h7:x.flt.suf.length<=1000000) (hk:x.k=6):SatG Tryz.prog tab 35 (wrB v) [.ptO 0 0 0 0 0,x.av] (wrB (wNums (wWord v sBreak) [x.node])) (.tup []):=by
 have e1:=uDf (x.k=1)
 have e2:=uDf (x.k=2)
 have e3:=uDf (x.k=3)
 have e4:=uDf (x.k=4)
 have e5:=uDf (x.k=5)
 have e6:=uDt (x.k=6)
 have e7:=uDf (x.k=7)
 have e8:=uDf (x.k=8)
 have e9:=uDf (x.k=9)
 have e10:=uDf (x.k=10)
 have e11:=uDf (x.k=11)
 have e12:=uDf (x.k=12)
 have e13:=uDf (x.k=13)
 have htab:(strs tabP).drop (x.k.toNat*1)=S (strOf sBreak)::strs (tabP.drop 7):=by rw[hk];rfl
 have w1:=word_sat v sBreak (by omega)
 have k1:=wWord_len v sBreak
 generalize wWord v sBreak=u1 at*
 have w2:=nums_sat u1 [x.node] (by omega) (by simp)
 have k2:=wNums_len u1 [x.node]
 simp only[List.length_cons,List.length_nil] at k2
 generalize wNums u1 [x.node]=u2 at*
 refine uFN Tryz.func35 Tryz.ntmps35 ?_;intro w e X hC
 repeat first|refine uC ?_|refine uA1 (uI @e1 (uI @e2 (uI @e3 (uI @e4 (uI @e5 (uI @e6 (uI @e7 (uI @e8 (uI @e9 (uI @e10 (uI @e11 (uI @e12 @e13)))))))))))) ?_
 refine uR1 (uI @gl0 @htab) ?_;intro K hK
 refine uH ?_
 refine callE [(0,0,0,0),(1,0,1,0)] [(0,0,0,0),(1,0,1,0)] true (w1) uTR uTR uTE uTE uTE uTE uTE uTE uTE uTE uTE uTE uTE uTE uTE uTE uTE ?_;refine uQS ?_
 refine hK _ ?_;clear hK K
 refine uR ?_;intro K hK
 refine uH ?_
 refine callE [(0,0,0,0),(1,0,1,0)] [(0,0,0,0),(1,0,1,0)] true (w2) uTR uTR uTE uTE uTE uTE uTE uTE uTE uTE uTE uTE uTE uTE uTE uTE uTE ?_;refine uQS ?_
 refine hK _ ?_;clear hK K
 show ∃σ D,RetG _ Tryz.f35.results.toList σ D _ _ _;rw[show Tryz.f35.results.toList=[] from rfl];(refine retG [(0,0,0,0),(1,0,1,0)] uRG (by simp) (by simp) (by simp) uTG uTG uTG ?_ ?_;all_goals (first|refine uSG ?_|exact uXG|skip))
theorem wact_7 (v:Wr) (x:Acx) (hw:v.1.length<=1000) (h1:x.mv.length<=1000) (h2:x.gl.length<=1000) (h3:x.txt.length<=1000000) (h4:x.rev.flt.car.length<=1000000) (h5:x.rev.flt.suf.length<=1000000) (h6:x.flt.car.length<=1000000) (h7:x.flt.suf.length<=1000000) (hk:x.k=7):SatG Tryz.prog tab 35 (wrB v) [.ptO 0 0 0 0 0,x.av] (wrB (wNums (wWord v sRepair) [x.node])) (.tup []):=by
 have e1:=uDf (x.k=1)
 have e2:=uDf (x.k=2)
 have e3:=uDf (x.k=3)
 have e4:=uDf (x.k=4)
 have e5:=uDf (x.k=5)
 have e6:=uDf (x.k=6)
 have e7:=uDt (x.k=7)
 have e8:=uDf (x.k=8)
 have e9:=uDf (x.k=9)
 have e10:=uDf (x.k=10)
 have e11:=uDf (x.k=11)
 have e12:=uDf (x.k=12)
 have e13:=uDf (x.k=13)
 have htab:(strs tabP).drop (x.k.toNat*1)=S (strOf sRepair)::strs (tabP.drop 8):=by rw[hk];rfl
 have w1:=word_sat v sRepair (by omega)
 have k1:=wWord_len v sRepair
 generalize wWord v sRepair=u1 at*
 have w2:=nums_sat u1 [x.node] (by omega) (by simp)
 have k2:=wNums_len u1 [x.node]
 simp only[List.length_cons,List.length_nil] at k2
 generalize wNums u1 [x.node]=u2 at*
 refine uFN Tryz.func35 Tryz.ntmps35 ?_;intro w e X hC
 repeat first|refine uC ?_|refine uA1 (uI @e1 (uI @e2 (uI @e3 (uI @e4 (uI @e5 (uI @e6 (uI @e7 (uI @e8 (uI @e9 (uI @e10 (uI @e11 (uI @e12 @e13)))))))))))) ?_
 refine uR1 (uI @gl0 @htab) ?_;intro K hK
 refine uH ?_
 refine callE [(0,0,0,0),(1,0,1,0)] [(0,0,0,0),(1,0,1,0)] true (w1) uTR uTR uTE uTE uTE uTE uTE uTE uTE uTE uTE uTE uTE uTE uTE uTE uTE ?_;refine uQS ?_
 refine hK _ ?_;clear hK K
 refine uR ?_;intro K hK
 refine uH ?_
 refine callE [(0,0,0,0),(1,0,1,0)] [(0,0,0,0),(1,0,1,0)] true (w2) uTR uTR uTE uTE uTE uTE uTE uTE uTE uTE uTE uTE uTE uTE uTE uTE uTE ?_;refine uQS ?_
 refine hK _ ?_;clear hK K
 show ∃σ D,RetG _ Tryz.f35.results.toList σ D _ _ _;rw[show Tryz.f35.results.toList=[] from rfl];(refine retG [(0,0,0,0),(1,0,1,0)] uRG (by simp) (by simp) (by simp) uTG uTG uTG ?_ ?_;all_goals (first|refine uSG ?_|exact uXG|skip))
theorem wact_8 (v:Wr) (x:Acx) (hw:v.1.length<=1000) (h1:x.mv.length<=1000) (h2:x.gl.length<=1000) (h3:x.txt.length<=1000000) (h4:x.rev.flt.car.length<=1000000) (h5:x.rev.flt.suf.length<=1000000) (h6:x.flt.car.length<=1000000) (h7:x.flt.suf.length<=1000000) (hk:x.k=8):SatG Tryz.prog tab 35 (wrB v) [.ptO 0 0 0 0 0,x.av] (wrB (wNums (wWord (wNums (wWord v sLoad) [x.dev]) x.plt.fmt) [x.node,x.con])) (.tup []):=by
 have e1:=uDf (x.k=1)
 have e2:=uDf (x.k=2)
 have e3:=uDf (x.k=3)
 have e4:=uDf (x.k=4)
 have e5:=uDf (x.k=5)
 have e6:=uDf (x.k=6)
 have e7:=uDf (x.k=7)
 have e8:=uDt (x.k=8)
 have e9:=uDf (x.k=9)
 have e10:=uDf (x.k=10)
 have e11:=uDf (x.k=11)
 have e12:=uDf (x.k=12)
 have e13:=uDf (x.k=13)
 have hp:=pformat_sat x.plt
 have w1:=word_sat v sLoad (by omega)
 have k1:=wWord_len v sLoad
 generalize wWord v sLoad=u1 at*
 have w2:=nums_sat u1 [x.dev] (by omega) (by simp)
 have k2:=wNums_len u1 [x.dev]
 simp only[List.length_cons,List.length_nil] at k2
 generalize wNums u1 [x.dev]=u2 at*
 have w3:=word_sat u2 x.plt.fmt (by omega)
 have k3:=wWord_len u2 x.plt.fmt
 generalize wWord u2 x.plt.fmt=u3 at*
 have w4:=nums_sat u3 [x.node,x.con] (by omega) (by simp)
 have k4:=wNums_len u3 [x.node,x.con]
 simp only[List.length_cons,List.length_nil] at k4
 generalize wNums u3 [x.node,x.con]=u4 at*
 refine uFN Tryz.func35 Tryz.ntmps35 ?_;intro w e X hC
 repeat first|refine uC ?_|refine uA1 (uI @e1 (uI @e2 (uI @e3 (uI @e4 (uI @e5 (uI @e6 (uI @e7 (uI @e8 (uI @e9 (uI @e10 (uI @e11 (uI @e12 @e13)))))))))))) ?_
 refine uR ?_;intro K hK
 refine uH ?_
 refine callE [(0,0,0,0),(1,0,1,0)] [(0,0,0,0),(1,0,1,0)] true (w1) uTR uTR uTE uTE uTE uTE uTE uTE uTE uTE uTE uTE uTE uTE uTE uTE uTE ?_;refine uQS ?_
 refine hK _ ?_;clear hK K
 refine uR ?_;intro K hK
 refine uH ?_
 refine callE [(0,0,0,0),(1,0,1,0)] [(0,0,0,0),(1,0,1,0)] true (w2) uTR uTR uTE uTE uTE uTE uTE uTE uTE uTE uTE uTE uTE uTE uTE uTE uTE ?_;refine uQS ?_
 refine hK _ ?_;clear hK K
 refine uR ?_;intro K hK
 refine uH ?_
 refine callF uTS (hp) uTS uTS uTS ?_;refine uS ?_
 refine callE [(0,0,0,0),(1,0,1,0)] [(0,0,0,0),(1,0,1,0)] true (w3) uTR uTR uTE uTE uTE uTE uTE uTE uTE uTE uTE uTE uTE uTE uTE uTE uTE ?_;refine uQS ?_
 refine hK _ ?_;clear hK K
 refine uR ?_;intro K hK
 refine uH ?_
 refine callE [(0,0,0,0),(1,0,1,0)] [(0,0,0,0),(1,0,1,0)] true (w4) uTR uTR uTE uTE uTE uTE uTE uTE uTE uTE uTE uTE uTE uTE uTE uTE uTE ?_;refine uQS ?_
 refine hK _ ?_;clear hK K
 show ∃σ D,RetG _ Tryz.f35.results.toList σ D _ _ _;rw[show Tryz.f35.results.toList=[] from rfl];(refine retG [(0,0,0,0),(1,0,1,0)] uRG (by simp) (by simp) (by simp) uTG uTG uTG ?_ ?_;all_goals (first|refine uSG ?_|exact uXG|skip))
theorem wact_9 (v:Wr) (x:Acx) (hw:v.1.length<=1000) (h1:x.mv.length<=1000) (h2:x.gl.length<=1000) (h3:x.txt.length<=1000000) (h4:x.rev.flt.car.length<=1000000) (h5:x.rev.flt.suf.length<=1000000) (h6:x.flt.car.length<=1000000) (h7:x.flt.suf.length<=1000000) (hk:x.k=9):SatG Tryz.prog tab 35 (wrB v) [.ptO 0 0 0 0 0,x.av] (wrB (wNums (wWord (wNums (wWord v sUnload) [x.dev]) x.plt.fmt) [x.con])) (.tup []):=by
 have e1:=uDf (x.k=1)
 have e2:=uDf (x.k=2)
 have e3:=uDf (x.k=3)
 have e4:=uDf (x.k=4)
 have e5:=uDf (x.k=5)
 have e6:=uDf (x.k=6)
 have e7:=uDf (x.k=7)
 have e8:=uDf (x.k=8)
 have e9:=uDt (x.k=9)
 have e10:=uDf (x.k=10)
 have e11:=uDf (x.k=11)
 have e12:=uDf (x.k=12)
 have e13:=uDf (x.k=13)
 have hp:=pformat_sat x.plt
 have w1:=word_sat v sUnload (by omega)
 have k1:=wWord_len v sUnload
 generalize wWord v sUnload=u1 at*
 have w2:=nums_sat u1 [x.dev] (by omega) (by simp)
 have k2:=wNums_len u1 [x.dev]
 simp only[List.length_cons,List.length_nil] at k2
 generalize wNums u1 [x.dev]=u2 at*
 have w3:=word_sat u2 x.plt.fmt (by omega)
 have k3:=wWord_len u2 x.plt.fmt
 generalize wWord u2 x.plt.fmt=u3 at*
 have w4:=nums_sat u3 [x.con] (by omega) (by simp)
 have k4:=wNums_len u3 [x.con]
 simp only[List.length_cons,List.length_nil] at k4
 generalize wNums u3 [x.con]=u4 at*
 refine uFN Tryz.func35 Tryz.ntmps35 ?_;intro w e X hC
 repeat first|refine uC ?_|refine uA1 (uI @e1 (uI @e2 (uI @e3 (uI @e4 (uI @e5 (uI @e6 (uI @e7 (uI @e8 (uI @e9 (uI @e10 (uI @e11 (uI @e12 @e13)))))))))))) ?_
 refine uR ?_;intro K hK
 refine uH ?_
 refine callE [(0,0,0,0),(1,0,1,0)] [(0,0,0,0),(1,0,1,0)] true (w1) uTR uTR uTE uTE uTE uTE uTE uTE uTE uTE uTE uTE uTE uTE uTE uTE uTE ?_;refine uQS ?_
 refine hK _ ?_;clear hK K
 refine uR ?_;intro K hK
 refine uH ?_
 refine callE [(0,0,0,0),(1,0,1,0)] [(0,0,0,0),(1,0,1,0)] true (w2) uTR uTR uTE uTE uTE uTE uTE uTE uTE uTE uTE uTE uTE uTE uTE uTE uTE ?_;refine uQS ?_
 refine hK _ ?_;clear hK K
 refine uR ?_;intro K hK
 refine uH ?_
 refine callF uTS (hp) uTS uTS uTS ?_;refine uS ?_
 refine callE [(0,0,0,0),(1,0,1,0)] [(0,0,0,0),(1,0,1,0)] true (w3) uTR uTR uTE uTE uTE uTE uTE uTE uTE uTE uTE uTE uTE uTE uTE uTE uTE ?_;refine uQS ?_
 refine hK _ ?_;clear hK K
 refine uR ?_;intro K hK
 refine uH ?_
 refine callE [(0,0,0,0),(1,0,1,0)] [(0,0,0,0),(1,0,1,0)] true (w4) uTR uTR uTE uTE uTE uTE uTE uTE uTE uTE uTE uTE uTE uTE uTE uTE uTE ?_;refine uQS ?_
 refine hK _ ?_;clear hK K
 show ∃σ D,RetG _ Tryz.f35.results.toList σ D _ _ _;rw[show Tryz.f35.results.toList=[] from rfl];(refine retG [(0,0,0,0),(1,0,1,0)] uRG (by simp) (by simp) (by simp) uTG uTG uTG ?_ ?_;all_goals (first|refine uSG ?_|exact uXG|skip))
theorem wact_10 (v:Wr) (x:Acx) (hw:v.1.length<=1000) (h1:x.mv.length<=1000) (h2:x.gl.length<=1000) (h3:x.txt.length<=1000000) (h4:x.rev.flt.car.length<=1000000) (h5:x.rev.flt.suf.length<=1000000) (h6:x.flt.car.length<=1000000) (h7:x.flt.suf.length<=1000000) (hk:x.k=10):SatG Tryz.prog tab 35 (wrB v) [.ptO 0 0 0 0 0,x.av] (wrB (wNums (wWord (wWord v sPick) x.plt.fmt) [x.node])) (.tup []):=by
 have e1:=uDf (x.k=1)
 have e2:=uDf (x.k=2)
 have e3:=uDf (x.k=3)
 have e4:=uDf (x.k=4)
 have e5:=uDf (x.k=5)
 have e6:=uDf (x.k=6)
 have e7:=uDf (x.k=7)
 have e8:=uDf (x.k=8)
 have e9:=uDf (x.k=9)
 have e10:=uDt (x.k=10)
 have e11:=uDf (x.k=11)
 have e12:=uDf (x.k=12)
 have e13:=uDf (x.k=13)
 have hp:=pformat_sat x.plt
 have w1:=word_sat v sPick (by omega)
 have k1:=wWord_len v sPick
 generalize wWord v sPick=u1 at*
 have w2:=word_sat u1 x.plt.fmt (by omega)
 have k2:=wWord_len u1 x.plt.fmt
 generalize wWord u1 x.plt.fmt=u2 at*
 have w3:=nums_sat u2 [x.node] (by omega) (by simp)
 have k3:=wNums_len u2 [x.node]
 simp only[List.length_cons,List.length_nil] at k3
 generalize wNums u2 [x.node]=u3 at*
 refine uFN Tryz.func35 Tryz.ntmps35 ?_;intro w e X hC
 repeat first|refine uC ?_|refine uA1 (uI @e1 (uI @e2 (uI @e3 (uI @e4 (uI @e5 (uI @e6 (uI @e7 (uI @e8 (uI @e9 (uI @e10 (uI @e11 (uI @e12 @e13)))))))))))) ?_
 refine uR ?_;intro K hK
 refine uH ?_
 refine callE [(0,0,0,0),(1,0,1,0)] [(0,0,0,0),(1,0,1,0)] true (w1) uTR uTR uTE uTE uTE uTE uTE uTE uTE uTE uTE uTE uTE uTE uTE uTE uTE ?_;refine uQS ?_
 refine hK _ ?_;clear hK K
 refine uR ?_;intro K hK
 refine uH ?_
 refine callF uTS (hp) uTS uTS uTS ?_;refine uS ?_
 refine callE [(0,0,0,0),(1,0,1,0)] [(0,0,0,0),(1,0,1,0)] true (w2) uTR uTR uTE uTE uTE uTE uTE uTE uTE uTE uTE uTE uTE uTE uTE uTE uTE ?_;refine uQS ?_
 refine hK _ ?_;clear hK K
 refine uR ?_;intro K hK
 refine uH ?_
 refine callE [(0,0,0,0),(1,0,1,0)] [(0,0,0,0),(1,0,1,0)] true (w3) uTR uTR uTE uTE uTE uTE uTE uTE uTE uTE uTE uTE uTE uTE uTE uTE uTE ?_;refine uQS ?_
 refine hK _ ?_;clear hK K
 show ∃σ D,RetG _ Tryz.f35.results.toList σ D _ _ _;rw[show Tryz.f35.results.toList=[] from rfl];(refine retG [(0,0,0,0),(1,0,1,0)] uRG (by simp) (by simp) (by simp) uTG uTG uTG ?_ ?_;all_goals (first|refine uSG ?_|exact uXG|skip))
theorem wact_11 (v:Wr) (x:Acx) (hw:v.1.length<=1000) (h1:x.mv.length<=1000) (h2:x.gl.length<=1000) (h3:x.txt.length<=1000000) (h4:x.rev.flt.car.length<=1000000) (h5:x.rev.flt.suf.length<=1000000) (h6:x.flt.car.length<=1000000) (h7:x.flt.suf.length<=1000000) (hk:x.k=11):SatG Tryz.prog tab 35 (wrB v) [.ptO 0 0 0 0 0,x.av] (wrB (wNums (wWord v sOffline) [x.dev])) (.tup []):=by
 have e1:=uDf (x.k=1)
 have e2:=uDf (x.k=2)
 have e3:=uDf (x.k=3)
 have e4:=uDf (x.k=4)
 have e5:=uDf (x.k=5)
 have e6:=uDf (x.k=6)
 have e7:=uDf (x.k=7)
 have e8:=uDf (x.k=8)
 have e9:=uDf (x.k=9)
 have e10:=uDf (x.k=10)
 have e11:=uDt (x.k=11)
 have e12:=uDf (x.k=12)
 have e13:=uDf (x.k=13)
 have htab:(strs tabP).drop (x.k.toNat*1)=S (strOf sOffline)::strs (tabP.drop 12):=by rw[hk];rfl
 have w1:=word_sat v sOffline (by omega)
 have k1:=wWord_len v sOffline
 generalize wWord v sOffline=u1 at*
 have w2:=nums_sat u1 [x.dev] (by omega) (by simp)
 have k2:=wNums_len u1 [x.dev]
 simp only[List.length_cons,List.length_nil] at k2
 generalize wNums u1 [x.dev]=u2 at*
 refine uFN Tryz.func35 Tryz.ntmps35 ?_;intro w e X hC
 repeat first|refine uC ?_|refine uA1 (uI @e1 (uI @e2 (uI @e3 (uI @e4 (uI @e5 (uI @e6 (uI @e7 (uI @e8 (uI @e9 (uI @e10 (uI @e11 (uI @e12 @e13)))))))))))) ?_
 refine uR1 (uI @gl0 @htab) ?_;intro K hK
 refine uH ?_
 refine callE [(0,0,0,0),(1,0,1,0)] [(0,0,0,0),(1,0,1,0)] true (w1) uTR uTR uTE uTE uTE uTE uTE uTE uTE uTE uTE uTE uTE uTE uTE uTE uTE ?_;refine uQS ?_
 refine hK _ ?_;clear hK K
 refine uR ?_;intro K hK
 refine uH ?_
 refine callE [(0,0,0,0),(1,0,1,0)] [(0,0,0,0),(1,0,1,0)] true (w2) uTR uTR uTE uTE uTE uTE uTE uTE uTE uTE uTE uTE uTE uTE uTE uTE uTE ?_;refine uQS ?_
 refine hK _ ?_;clear hK K
 show ∃σ D,RetG _ Tryz.f35.results.toList σ D _ _ _;rw[show Tryz.f35.results.toList=[] from rfl];(refine retG [(0,0,0,0),(1,0,1,0)] uRG (by simp) (by simp) (by simp) uTG uTG uTG ?_ ?_;all_goals (first|refine uSG ?_|exact uXG|skip))
theorem wact_12 (v:Wr) (x:Acx) (hw:v.1.length<=1000) (h1:x.mv.length<=1000) (h2:x.gl.length<=1000) (h3:x.txt.length<=1000000) (h4:x.rev.flt.car.length<=1000000) (h5:x.rev.flt.suf.length<=1000000) (h6:x.flt.car.length<=1000000) (h7:x.flt.suf.length<=1000000) (hk:x.k=12):SatG Tryz.prog tab 35 (wrB v) [.ptO 0 0 0 0 0,x.av] (wrB (wNums (wWord v sOnline) [x.dev])) (.tup []):=by
 have e1:=uDf (x.k=1)
 have e2:=uDf (x.k=2)
 have e3:=uDf (x.k=3)
 have e4:=uDf (x.k=4)
 have e5:=uDf (x.k=5)
 have e6:=uDf (x.k=6)
 have e7:=uDf (x.k=7)
 have e8:=uDf (x.k=8)
 have e9:=uDf (x.k=9)
 have e10:=uDf (x.k=10)
 have e11:=uDf (x.k=11)
 have e12:=uDt (x.k=12)
 have e13:=uDf (x.k=13)
 have htab:(strs tabP).drop (x.k.toNat*1)=S (strOf sOnline)::strs (tabP.drop 13):=by rw[hk];rfl
 have w1:=word_sat v sOnline (by omega)
 have k1:=wWord_len v sOnline
 generalize wWord v sOnline=u1 at*
 have w2:=nums_sat u1 [x.dev] (by omega) (by simp)
 have k2:=wNums_len u1 [x.dev]
 simp only[List.length_cons,List.length_nil] at k2
 generalize wNums u1 [x.dev]=u2 at*
 refine uFN Tryz.func35 Tryz.ntmps35 ?_;intro w e X hC
 repeat first|refine uC ?_|refine uA1 (uI @e1 (uI @e2 (uI @e3 (uI @e4 (uI @e5 (uI @e6 (uI @e7 (uI @e8 (uI @e9 (uI @e10 (uI @e11 (uI @e12 @e13)))))))))))) ?_
 refine uR1 (uI @gl0 @htab) ?_;intro K hK
 refine uH ?_
 refine callE [(0,0,0,0),(1,0,1,0)] [(0,0,0,0),(1,0,1,0)] true (w1) uTR uTR uTE uTE uTE uTE uTE uTE uTE uTE uTE uTE uTE uTE uTE uTE uTE ?_;refine uQS ?_
 refine hK _ ?_;clear hK K
 refine uR ?_;intro K hK
 refine uH ?_
 refine callE [(0,0,0,0),(1,0,1,0)] [(0,0,0,0),(1,0,1,0)] true (w2) uTR uTR uTE uTE uTE uTE uTE uTE uTE uTE uTE uTE uTE uTE uTE uTE uTE ?_;refine uQS ?_
 refine hK _ ?_;clear hK K
 show ∃σ D,RetG _ Tryz.f35.results.toList σ D _ _ _;rw[show Tryz.f35.results.toList=[] from rfl];(refine retG [(0,0,0,0),(1,0,1,0)] uRG (by simp) (by simp) (by simp) uTG uTG uTG ?_ ?_;all_goals (first|refine uSG ?_|exact uXG|skip))
theorem wact_13 (v:Wr) (x:Acx) (hw:v.1.length<=1000) (h1:x.mv.length<=1000) (h2:x.gl.length<=1000) (h3:x.txt.length<=1000000) (h4:x.rev.flt.car.length<=1000000) (h5:x.rev.flt.suf.length<=1000000) (h6:x.flt.car.length<=1000000) (h7:x.flt.suf.length<=1000000) (hk:x.k=13):SatG Tryz.prog tab 35 (wrB v) [.ptO 0 0 0 0 0,x.av] (wrB (wWord (wWord v sDepart) x.flt.fmt)) (.tup []):=by
 have e1:=uDf (x.k=1)
 have e2:=uDf (x.k=2)
 have e3:=uDf (x.k=3)
 have e4:=uDf (x.k=4)
 have e5:=uDf (x.k=5)
 have e6:=uDf (x.k=6)
 have e7:=uDf (x.k=7)
 have e8:=uDf (x.k=8)
 have e9:=uDf (x.k=9)
 have e10:=uDf (x.k=10)
 have e11:=uDf (x.k=11)
 have e12:=uDf (x.k=12)
 have e13:=uDt (x.k=13)
 have hf:=fformat_sat x.flt h6 h7
 have w1:=word_sat v sDepart (by omega)
 have k1:=wWord_len v sDepart
 generalize wWord v sDepart=u1 at*
 have w2:=word_sat u1 x.flt.fmt (by omega)
 have k2:=wWord_len u1 x.flt.fmt
 generalize wWord u1 x.flt.fmt=u2 at*
 refine uFN Tryz.func35 Tryz.ntmps35 ?_;intro w e X hC
 repeat first|refine uC ?_|refine uA1 (uI @e1 (uI @e2 (uI @e3 (uI @e4 (uI @e5 (uI @e6 (uI @e7 (uI @e8 (uI @e9 (uI @e10 (uI @e11 (uI @e12 @e13)))))))))))) ?_
 refine uR ?_;intro K hK
 refine uH ?_
 refine callE [(0,0,0,0),(1,0,1,0)] [(0,0,0,0),(1,0,1,0)] true (w1) uTR uTR uTE uTE uTE uTE uTE uTE uTE uTE uTE uTE uTE uTE uTE uTE uTE ?_;refine uQS ?_
 refine hK _ ?_;clear hK K
 refine uR ?_;intro K hK
 refine uH ?_
 refine callF uTS (hf) uTS uTS uTS ?_;refine uS ?_
 refine callE [(0,0,0,0),(1,0,1,0)] [(0,0,0,0),(1,0,1,0)] true (w2) uTR uTR uTE uTE uTE uTE uTE uTE uTE uTE uTE uTE uTE uTE uTE uTE uTE ?_;refine uQS ?_
 refine hK _ ?_;clear hK K
 show ∃σ D,RetG _ Tryz.f35.results.toList σ D _ _ _;rw[show Tryz.f35.results.toList=[] from rfl];(refine retG [(0,0,0,0),(1,0,1,0)] uRG (by simp) (by simp) (by simp) uTG uTG uTG ?_ ?_;all_goals (first|refine uSG ?_|exact uXG|skip))
theorem wact_4t (v:Wr) (x:Acx) (hw:v.1.length<=1000) (h1:x.mv.length<=1000) (h2:x.gl.length<=1000) (h3:x.txt.length<=1000000) (h4:x.rev.flt.car.length<=1000000) (h5:x.rev.flt.suf.length<=1000000) (h6:x.flt.car.length<=1000000) (h7:x.flt.suf.length<=1000000) (hk:x.k=4) (hsel:x.clr=true):SatG Tryz.prog tab 35 (wrB v) [.ptO 0 0 0 0 0,x.av] (wrB (wWord (wNums (wWord v sVerdict) [x.img]) sClear)) (.tup []):=by
 have e1:=uDf (x.k=1)
 have e2:=uDf (x.k=2)
 have e3:=uDf (x.k=3)
 have e4:=uDt (x.k=4)
 have e5:=uDf (x.k=5)
 have e6:=uDf (x.k=6)
 have e7:=uDf (x.k=7)
 have e8:=uDf (x.k=8)
 have e9:=uDf (x.k=9)
 have e10:=uDf (x.k=10)
 have e11:=uDf (x.k=11)
 have e12:=uDf (x.k=12)
 have e13:=uDf (x.k=13)
 have w1:=word_sat v sVerdict (by omega)
 have k1:=wWord_len v sVerdict
 generalize wWord v sVerdict=u1 at*
 have w2:=nums_sat u1 [x.img] (by omega) (by simp)
 have k2:=wNums_len u1 [x.img]
 simp only[List.length_cons,List.length_nil] at k2
 generalize wNums u1 [x.img]=u2 at*
 have w3:=word_sat u2 sClear (by omega)
 have k3:=wWord_len u2 sClear
 generalize wWord u2 sClear=u3 at*
 refine uFN Tryz.func35 Tryz.ntmps35 ?_;intro w e X hC
 repeat first|refine uC ?_|refine uA1 (uI @e1 (uI @e2 (uI @e3 (uI @e4 (uI @e5 (uI @e6 (uI @e7 (uI @e8 (uI @e9 (uI @e10 (uI @e11 (uI @e12 @e13)))))))))))) ?_
 refine uR ?_;intro K hK
 refine uH ?_
 refine callE [(0,0,0,0),(1,0,1,0)] [(0,0,0,0),(1,0,1,0)] true (w1) uTR uTR uTE uTE uTE uTE uTE uTE uTE uTE uTE uTE uTE uTE uTE uTE uTE ?_;refine uQS ?_
 refine hK _ ?_;clear hK K
 refine uR ?_;intro K hK
 refine uH ?_
 refine callE [(0,0,0,0),(1,0,1,0)] [(0,0,0,0),(1,0,1,0)] true (w2) uTR uTR uTE uTE uTE uTE uTE uTE uTE uTE uTE uTE uTE uTE uTE uTE uTE ?_;refine uQS ?_
 refine hK _ ?_;clear hK K
 repeat first|refine uC ?_|refine uA1 @hsel ?_
 refine uR ?_;intro K hK
 refine uH ?_
 refine callE [(0,0,0,0),(1,0,1,0)] [(0,0,0,0),(1,0,1,0)] true (w3) uTR uTR uTE uTE uTE uTE uTE uTE uTE uTE uTE uTE uTE uTE uTE uTE uTE ?_;refine uQS ?_
 refine hK _ ?_;clear hK K
 show ∃σ D,RetG _ Tryz.f35.results.toList σ D _ _ _;rw[show Tryz.f35.results.toList=[] from rfl];(refine retG [(0,0,0,0),(1,0,1,0)] uRG (by simp) (by simp) (by simp) uTG uTG uTG ?_ ?_;all_goals (first|refine uSG ?_|exact uXG|skip))
theorem wact_4f (v:Wr) (x:Acx) (hw:v.1.length<=1000) (h1:x.mv.length<=1000) (h2:x.gl.length<=1000) (h3:x.txt.length<=1000000) (h4:x.rev.flt.car.length<=1000000) (h5:x.rev.flt.suf.length<=1000000) (h6:x.flt.car.length<=1000000) (h7:x.flt.suf.length<=1000000) (hk:x.k=4) (hsel:x.clr=false):SatG Tryz.prog tab 35 (wrB v) [.ptO 0 0 0 0 0,x.av] (wrB (wWord (wNums (wWord v sVerdict) [x.img]) sAlarm)) (.tup []):=by
 have e1:=uDf (x.k=1)
 have e2:=uDf (x.k=2)
 have e3:=uDf (x.k=3)
 have e4:=uDt (x.k=4)
 have e5:=uDf (x.k=5)
 have e6:=uDf (x.k=6)
 have e7:=uDf (x.k=7)
 have e8:=uDf (x.k=8)
 have e9:=uDf (x.k=9)
 have e10:=uDf (x.k=10)
 have e11:=uDf (x.k=11)
 have e12:=uDf (x.k=12)
 have e13:=uDf (x.k=13)
 have w1:=word_sat v sVerdict (by omega)
 have k1:=wWord_len v sVerdict
 generalize wWord v sVerdict=u1 at*
 have w2:=nums_sat u1 [x.img] (by omega) (by simp)
 have k2:=wNums_len u1 [x.img]
 simp only[List.length_cons,List.length_nil] at k2
 generalize wNums u1 [x.img]=u2 at*
 have w3:=word_sat u2 sAlarm (by omega)
 have k3:=wWord_len u2 sAlarm
 generalize wWord u2 sAlarm=u3 at*
 refine uFN Tryz.func35 Tryz.ntmps35 ?_;intro w e X hC
 repeat first|refine uC ?_|refine uA1 (uI @e1 (uI @e2 (uI @e3 (uI @e4 (uI @e5 (uI @e6 (uI @e7 (uI @e8 (uI @e9 (uI @e10 (uI @e11 (uI @e12 @e13)))))))))))) ?_
 refine uR ?_;intro K hK
 refine uH ?_
 refine callE [(0,0,0,0),(1,0,1,0)] [(0,0,0,0),(1,0,1,0)] true (w1) uTR uTR uTE uTE uTE uTE uTE uTE uTE uTE uTE uTE uTE uTE uTE uTE uTE ?_;refine uQS ?_
 refine hK _ ?_;clear hK K
 refine uR ?_;intro K hK
 refine uH ?_
 refine callE [(0,0,0,0),(1,0,1,0)] [(0,0,0,0),(1,0,1,0)] true (w2) uTR uTR uTE uTE uTE uTE uTE uTE uTE uTE uTE uTE uTE uTE uTE uTE uTE ?_;refine uQS ?_
 refine hK _ ?_;clear hK K
 repeat first|refine uC ?_|refine uA1 @hsel ?_
 refine uR ?_;intro K hK
 refine uH ?_
 refine callE [(0,0,0,0),(1,0,1,0)] [(0,0,0,0),(1,0,1,0)] true (w3) uTR uTR uTE uTE uTE uTE uTE uTE uTE uTE uTE uTE uTE uTE uTE uTE uTE ?_;refine uQS ?_
 refine hK _ ?_;clear hK K
 show ∃σ D,RetG _ Tryz.f35.results.toList σ D _ _ _;rw[show Tryz.f35.results.toList=[] from rfl];(refine retG [(0,0,0,0),(1,0,1,0)] uRG (by simp) (by simp) (by simp) uTG uTG uTG ?_ ?_;all_goals (first|refine uSG ?_|exact uXG|skip))
theorem wact_1t (v:Wr) (x:Acx) (hw:v.1.length<=1000) (h1:x.mv.length<=1000) (h2:x.gl.length<=1000) (h3:x.txt.length<=1000000) (h4:x.rev.flt.car.length<=1000000) (h5:x.rev.flt.suf.length<=1000000) (h6:x.flt.car.length<=1000000) (h7:x.flt.suf.length<=1000000) (hk:x.k=1) (hsel:x.lost=true):SatG Tryz.prog tab 35 (wrB v) [.ptO 0 0 0 0 0,x.av] (wrB (wFaults 3 6 x.gl (wFaults 1 2 x.mv (wWord (wWord v sTick) sLost)))) (.tup []):=by
 have e1:=uDt (x.k=1)
 have e2:=uDf (x.k=2)
 have e3:=uDf (x.k=3)
 have e4:=uDf (x.k=4)
 have e5:=uDf (x.k=5)
 have e6:=uDf (x.k=6)
 have e7:=uDf (x.k=7)
 have e8:=uDf (x.k=8)
 have e9:=uDf (x.k=9)
 have e10:=uDf (x.k=10)
 have e11:=uDf (x.k=11)
 have e12:=uDf (x.k=12)
 have e13:=uDf (x.k=13)
 have w1:=word_sat v sTick (by omega)
 have k1:=wWord_len v sTick
 generalize wWord v sTick=u1 at*
 have w2:=word_sat u1 sLost (by omega)
 have k2:=wWord_len u1 sLost
 generalize wWord u1 sLost=u2 at*
 have w3:=wfaults_sat u2 x.mv 1 2 (by omega) (by omega) (by decide) (by decide)
 have k3:=wFaults_len 1 2 x.mv u2
 generalize wFaults 1 2 x.mv u2=u3 at*
 have w4:=wfaults_sat u3 x.gl 3 6 (by omega) (by omega) (by decide) (by decide)
 have k4:=wFaults_len 3 6 x.gl u3
 generalize wFaults 3 6 x.gl u3=u4 at*
 refine uFN Tryz.func35 Tryz.ntmps35 ?_;intro w e X hC
 repeat first|refine uC ?_|refine uA1 (uI @e1 (uI @e2 (uI @e3 (uI @e4 (uI @e5 (uI @e6 (uI @e7 (uI @e8 (uI @e9 (uI @e10 (uI @e11 (uI @e12 @e13)))))))))))) ?_
 refine uR ?_;intro K hK
 refine uH ?_
 refine callE [(0,0,0,0),(1,0,1,0)] [(0,0,0,0),(1,0,1,0)] true (w1) uTR uTR uTE uTE uTE uTE uTE uTE uTE uTE uTE uTE uTE uTE uTE uTE uTE ?_;refine uQS ?_
 refine hK _ ?_;clear hK K
 repeat first|refine uC ?_|refine uA1 @hsel ?_
 refine uR ?_;intro K hK
 refine uH ?_
 refine callE [(0,0,0,0),(1,0,1,0)] [(0,0,0,0),(1,0,1,0)] true (w2) uTR uTR uTE uTE uTE uTE uTE uTE uTE uTE uTE uTE uTE uTE uTE uTE uTE ?_;refine uQS ?_
 refine hK _ ?_;clear hK K
 refine uR ?_;intro K hK
 refine uH ?_
 refine callE [(0,0,0,0),(1,0,1,0)] [(0,0,0,0),(1,0,1,0)] true (w3) uTR uTR uTE uTE uTE uTE uTE uTE uTE uTE uTE uTE uTE uTE uTE uTE uTE ?_;refine uQS ?_
 refine hK _ ?_;clear hK K
 refine uR ?_;intro K hK
 refine uH ?_
 refine callE [(0,0,0,0),(1,0,1,0)] [(0,0,0,0),(1,0,1,0)] true (w4) uTR uTR uTE uTE uTE uTE uTE uTE uTE uTE uTE uTE uTE uTE uTE uTE uTE ?_;refine uQS ?_
 refine hK _ ?_;clear hK K
 show ∃σ D,RetG _ Tryz.f35.results.toList σ D _ _ _;rw[show Tryz.f35.results.toList=[] from rfl];(refine retG [(0,0,0,0),(1,0,1,0)] uRG (by simp) (by simp) (by simp) uTG uTG uTG ?_ ?_;all_goals (first|refine uSG ?_|exact uXG|skip))
theorem wact_1f (v:Wr) (x:Acx) (hw:v.1.length<=1000) (h1:x.mv.length<=1000) (h2:x.gl.length<=1000) (h3:x.txt.length<=1000000) (h4:x.rev.flt.car.length<=1000000) (h5:x.rev.flt.suf.length<=1000000) (h6:x.flt.car.length<=1000000) (h7:x.flt.suf.length<=1000000) (hk:x.k=1) (hsel:x.lost=false):SatG Tryz.prog tab 35 (wrB v) [.ptO 0 0 0 0 0,x.av] (wrB (wFaults 3 6 x.gl (wFaults 1 2 x.mv (wWord v sTick)))) (.tup []):=by
 have e1:=uDt (x.k=1)
 have e2:=uDf (x.k=2)
 have e3:=uDf (x.k=3)
 have e4:=uDf (x.k=4)
 have e5:=uDf (x.k=5)
 have e6:=uDf (x.k=6)
 have e7:=uDf (x.k=7)
 have e8:=uDf (x.k=8)
 have e9:=uDf (x.k=9)
 have e10:=uDf (x.k=10)
 have e11:=uDf (x.k=11)
 have e12:=uDf (x.k=12)
 have e13:=uDf (x.k=13)
 have w1:=word_sat v sTick (by omega)
 have k1:=wWord_len v sTick
 generalize wWord v sTick=u1 at*
 have w2:=wfaults_sat u1 x.mv 1 2 (by omega) (by omega) (by decide) (by decide)
 have k2:=wFaults_len 1 2 x.mv u1
 generalize wFaults 1 2 x.mv u1=u2 at*
 have w3:=wfaults_sat u2 x.gl 3 6 (by omega) (by omega) (by decide) (by decide)
 have k3:=wFaults_len 3 6 x.gl u2
 generalize wFaults 3 6 x.gl u2=u3 at*
 refine uFN Tryz.func35 Tryz.ntmps35 ?_;intro w e X hC
 repeat first|refine uC ?_|refine uA1 (uI @e1 (uI @e2 (uI @e3 (uI @e4 (uI @e5 (uI @e6 (uI @e7 (uI @e8 (uI @e9 (uI @e10 (uI @e11 (uI @e12 @e13)))))))))))) ?_
 refine uR ?_;intro K hK
 refine uH ?_
 refine callE [(0,0,0,0),(1,0,1,0)] [(0,0,0,0),(1,0,1,0)] true (w1) uTR uTR uTE uTE uTE uTE uTE uTE uTE uTE uTE uTE uTE uTE uTE uTE uTE ?_;refine uQS ?_
 refine hK _ ?_;clear hK K
 repeat first|refine uC ?_|refine uA1 @hsel ?_
 refine uR ?_;intro K hK
 refine uH ?_
 refine callE [(0,0,0,0),(1,0,1,0)] [(0,0,0,0),(1,0,1,0)] true (w2) uTR uTR uTE uTE uTE uTE uTE uTE uTE uTE uTE uTE uTE uTE uTE uTE uTE ?_;refine uQS ?_
 refine hK _ ?_;clear hK K
 refine uR ?_;intro K hK
 refine uH ?_
 refine callE [(0,0,0,0),(1,0,1,0)] [(0,0,0,0),(1,0,1,0)] true (w3) uTR uTR uTE uTE uTE uTE uTE uTE uTE uTE uTE uTE uTE uTE uTE uTE uTE ?_;refine uQS ?_
 refine hK _ ?_;clear hK K
 show ∃σ D,RetG _ Tryz.f35.results.toList σ D _ _ _;rw[show Tryz.f35.results.toList=[] from rfl];(refine retG [(0,0,0,0),(1,0,1,0)] uRG (by simp) (by simp) (by simp) uTG uTG uTG ?_ ?_;all_goals (first|refine uSG ?_|exact uXG|skip))
theorem wact_sat (v:Wr) (x:Acx) (hw:v.1.length<=1000) (h1:x.mv.length<=1000) (h2:x.gl.length<=1000) (h3:x.txt.length<=1000000) (h4:x.rev.flt.car.length<=1000000) (h5:x.rev.flt.suf.length<=1000000) (h6:x.flt.car.length<=1000000) (h7:x.flt.suf.length<=1000000):SatG Tryz.prog tab 35 (wrB v) [.ptO 0 0 0 0 0,x.av] (wrB (wAct v x)) (.tup []):=by
 unfold wAct
 by_cases n1:x.k=1
 ·rw[if_pos n1]
  cases hs:x.lost with
  |true=>exact wact_1t v x hw h1 h2 h3 h4 h5 h6 h7 n1 hs
  |false=>exact wact_1f v x hw h1 h2 h3 h4 h5 h6 h7 n1 hs
 rw[if_neg n1]
 by_cases n2:x.k=2
 ·rw[if_pos n2]
  exact wact_2 v x hw h1 h2 h3 h4 h5 h6 h7 n2
 rw[if_neg n2]
 by_cases n3:x.k=3
 ·rw[if_pos n3]
  exact wact_3 v x hw h1 h2 h3 h4 h5 h6 h7 n3
 rw[if_neg n3]
 by_cases n4:x.k=4
 ·rw[if_pos n4]
  cases hs:x.clr with
  |true=>exact wact_4t v x hw h1 h2 h3 h4 h5 h6 h7 n4 hs
  |false=>exact wact_4f v x hw h1 h2 h3 h4 h5 h6 h7 n4 hs
 rw[if_neg n4]
 by_cases n5:x.k=5
 ·rw[if_pos n5]
  exact wact_5 v x hw h1 h2 h3 h4 h5 h6 h7 n5
 rw[if_neg n5]
 by_cases n6:x.k=6
 ·rw[if_pos n6]
  exact wact_6 v x hw h1 h2 h3 h4 h5 h6 h7 n6
 rw[if_neg n6]
 by_cases n7:x.k=7
 ·rw[if_pos n7]
  exact wact_7 v x hw h1 h2 h3 h4 h5 h6 h7 n7
 rw[if_neg n7]
 by_cases n8:x.k=8
 ·rw[if_pos n8]
  exact wact_8 v x hw h1 h2 h3 h4 h5 h6 h7 n8
 rw[if_neg n8]
 by_cases n9:x.k=9
 ·rw[if_pos n9]
  exact wact_9 v x hw h1 h2 h3 h4 h5 h6 h7 n9
 rw[if_neg n9]
 by_cases n10:x.k=10
 ·rw[if_pos n10]
  exact wact_10 v x hw h1 h2 h3 h4 h5 h6 h7 n10
 rw[if_neg n10]
 by_cases n11:x.k=11
 ·rw[if_pos n11]
  exact wact_11 v x hw h1 h2 h3 h4 h5 h6 h7 n11
 rw[if_neg n11]
 by_cases n12:x.k=12
 ·rw[if_pos n12]
  exact wact_12 v x hw h1 h2 h3 h4 h5 h6 h7 n12
 rw[if_neg n12]
 by_cases n13:x.k=13
 ·rw[if_pos n13]
  exact wact_13 v x hw h1 h2 h3 h4 h5 h6 h7 n13
 rw[if_neg n13]
 exact wact_0 v x hw h1 h2 h3 h4 h5 h6 h7 n1 n2 n3 n4 n5 n6 n7 n8 n9 n10 n11 n12 n13
open Go.Scr
structure SmA (x:Acx):Prop where
 mv:x.mv.length<=1000
 gl:x.gl.length<=1000
 tx:x.txt.length<=1000000
 rc:x.rev.flt.car.length<=1000000
 rs:x.rev.flt.suf.length<=1000000
 fc:x.flt.car.length<=1000000
 fs:x.flt.suf.length<=1000000
theorem wMsg_len (w:Wr) (s:Bs):(wMsg w s).1.length=w.1.length+1:=by simp[wMsg]
theorem wRev_len (w:Wr) (r:Rev):(wRev w r).1.length<=w.1.length+3:=by
 unfold wRev
 split
 ·split
  ·simp only[wWord_len];omega
  ·rw[wNums_len,wWord_len,wWord_len];exact Nat.le_refl _
 ·exact Nat.le_add_right _ _
theorem wAct_by {p:Wr->Prop} {w:Wr} {x:Acx} (a1:p (wFaults 3 6 x.gl (wFaults 1 2 x.mv (if x.lost then wWord (wWord w sTick) sLost else wWord w sTick)))) (a2:p (wNums (wWord (wWord w sInduct) x.plt.fmt) [x.node])) (a3:p (wMsg (wWord w sMessage) x.txt)) (a4:p (wWord (wNums (wWord w sVerdict) [x.img]) (if x.clr then sClear else sAlarm))) (a5:p (wRev w x.rev)) (a6:p (wNums (wWord w sBreak) [x.node])) (a7:p (wNums (wWord w sRepair) [x.node])) (a8:p (wNums (wWord (wNums (wWord w sLoad) [x.dev]) x.plt.fmt) [x.node,x.con])) (a9:p (wNums (wWord (wNums (wWord w sUnload) [x.dev]) x.plt.fmt) [x.con])) (a10:p (wNums (wWord (wWord w sPick) x.plt.fmt) [x.node])) (a11:p (wNums (wWord w sOffline) [x.dev])) (a12:p (wNums (wWord w sOnline) [x.dev])) (a13:p (wWord (wWord w sDepart) x.flt.fmt)) (a14:p (wWord w sCrash)):p (wAct w x):=by
 unfold wAct
 by_cases h1:x.k=1
 ·rw[if_pos h1];exact a1
 rw[if_neg h1]
 by_cases h2:x.k=2
 ·rw[if_pos h2];exact a2
 rw[if_neg h2]
 by_cases h3:x.k=3
 ·rw[if_pos h3];exact a3
 rw[if_neg h3]
 by_cases h4:x.k=4
 ·rw[if_pos h4];exact a4
 rw[if_neg h4]
 by_cases h5:x.k=5
 ·rw[if_pos h5];exact a5
 rw[if_neg h5]
 by_cases h6:x.k=6
 ·rw[if_pos h6];exact a6
 rw[if_neg h6]
 by_cases h7:x.k=7
 ·rw[if_pos h7];exact a7
 rw[if_neg h7]
 by_cases h8:x.k=8
 ·rw[if_pos h8];exact a8
 rw[if_neg h8]
 by_cases h9:x.k=9
 ·rw[if_pos h9];exact a9
 rw[if_neg h9]
 by_cases h10:x.k=10
 ·rw[if_pos h10];exact a10
 rw[if_neg h10]
 by_cases h11:x.k=11
 ·rw[if_pos h11];exact a11
 rw[if_neg h11]
 by_cases h12:x.k=12
 ·rw[if_pos h12];exact a12
 rw[if_neg h12]
 by_cases h13:x.k=13
 ·rw[if_pos h13];exact a13
 rw[if_neg h13]
 exact a14
theorem wAct_len (w:Wr) (x:Acx):(wAct w x).1.length<=w.1.length+x.mv.length+x.gl.length+8:=by
 have hr:=wRev_len w x.rev
 have h1:(wFaults 3 6 x.gl (wFaults 1 2 x.mv (if x.lost then wWord (wWord w sTick) sLost else wWord w sTick))).1.length<=w.1.length+x.mv.length+x.gl.length+8:=by
  have a:=wFaults_len 3 6 x.gl (wFaults 1 2 x.mv (if x.lost then wWord (wWord w sTick) sLost else wWord w sTick))
  have b:=wFaults_len 1 2 x.mv (if x.lost then wWord (wWord w sTick) sLost else wWord w sTick)
  have c:(if x.lost then wWord (wWord w sTick) sLost else wWord w sTick).1.length<=w.1.length+2:=by
   split
   ·rw[wWord_len,wWord_len];exact Nat.le_refl _
   ·rw[wWord_len];omega
  omega
 refine wAct_by (p:=fun u=>u.1.length<=w.1.length+x.mv.length+x.gl.length+8) h1 ?_ ?_ ?_ (by omega) ?_ ?_ ?_ ?_ ?_ ?_ ?_ ?_ ?_
 all_goals simp only[wWord_len,wNums_len,wMsg_len,List.length_cons,List.length_nil]
 all_goals omega
def Bd (m:Nat) (w:Wr):Prop:=∀s∈w.1,s.length<=m
theorem Bd.word {m:Nat} {w:Wr} (h:Bd m w) {s:Bs} (hs:s.length<=m):Bd m (wWord w s):=by
 intro x hx
 rcases List.mem_append.1 hx with hx|hx
 ·exact h x hx
 ·rw[List.mem_singleton.1 hx];exact hs
theorem Bd.nums {m:Nat} (hm:6<=m):∀{l:List Int} {w:Wr},Bd m w->Bd m (wNums w l)
 |[],_,h=>h
 |n::l,_,h=>Bd.nums hm (l:=l) (h.word (Nat.le_trans (decW_len n) hm))
theorem Bd.faults {m:Nat} (hm:20<=m) {lo hi:Int}:∀{l:List Flaw} {w:Wr},Bd m w->Bd m (wFaults lo hi l w)
 |[],_,h=>h
 |f::r,w,h=>by
  rw[wFaults]
  split
  ·exact Bd.faults hm (h.word (Nat.le_trans (wFault_len f) hm))
  ·exact h
theorem pfmt_len (p:Plt):p.fmt.length<=10:=by
 unfold Plt.fmt
 split
 ·rw[digs_length];exact Nat.le_refl _
 ·exact Nat.zero_le _
theorem ffmt_len (f:Flt):f.fmt.length<=10:=by
 unfold Flt.fmt
 split
 ·rename_i h
  have:=fok h
  simp only[List.length_append,digs_length,List.length_singleton]
  omega
 ·exact Nat.zero_le _
theorem revN_len (k:Int):(revN k).length<=7:=by
 unfold revN
 repeat (split;exact Nat.le_of_ble_eq_true rfl)
 exact Nat.zero_le _
theorem Bd.rev {m:Nat} (hm:20<=m) {w:Wr} (h:Bd m w) (r:Rev):Bd m (wRev w r):=by
 have h1:=revN_len r.k
 have h2:=ffmt_len r.flt
 have a:Bd m (wWord (wWord w (revN r.k)) r.flt.fmt):=(h.word (by omega)).word (by omega)
 unfold wRev
 split
 ·split
  ·exact a
  ·exact a.nums (by omega)
 ·exact h
theorem Bd.act {m:Nat} (hm:20<=m) {w:Wr} (h:Bd m w) (x:Acx) (ht:x.txt.length<=m):Bd m (wAct w x):=by
 have hp:=pfmt_len x.plt
 have hf:=ffmt_len x.flt
 have h6:6<=m:=by omega
 have wd:∀{s:Bs},s.length<=7->s.length<=m:=fun h=>by omega
 refine wAct_by (p:=Bd m) ?_ ?_ ?_ ?_ ?_ ?_ ?_ ?_ ?_ ?_ ?_ ?_ ?_ ?_
 ·refine Bd.faults hm (Bd.faults hm ?_)
  split
  ·exact(h.word (wd (by decide))).word (wd (by decide))
  ·exact h.word (wd (by decide))
 ·exact((h.word (wd (by decide))).word (by omega)).nums h6
 ·intro s hs
  rcases List.mem_append.1 hs with hs|hs
  ·exact(h.word (wd (by decide))) s hs
  ·rw[List.mem_singleton.1 hs,swapB_length];exact ht
 ·refine Bd.word ((h.word (wd (by decide))).nums h6) ?_
  split
  ·exact wd (by decide)
  ·exact wd (by decide)
 ·exact h.rev hm _
 ·exact(h.word (wd (by decide))).nums h6
 ·exact(h.word (wd (by decide))).nums h6
 ·exact(((h.word (wd (by decide))).nums h6).word (by omega)).nums h6
 ·exact(((h.word (wd (by decide))).nums h6).word (by omega)).nums h6
 ·exact((h.word (wd (by decide))).word (by omega)).nums h6
 ·exact(h.word (wd (by decide))).nums h6
 ·exact(h.word (wd (by decide))).nums h6
 ·exact(h.word (wd (by decide))).word (by omega)
 ·exact h.word (wd (by decide))
theorem join_len {m:Nat}:∀{l:List Bs},(∀s∈l,s.length<=m)->(Lib.join l [32]).length<=l.length*(m+1)
 |[],_=>Nat.zero_le _
 |x::r,h=>by
  have ih:=join_len (l:=r) (fun s hs=>h s (List.mem_cons_of_mem _ hs))
  have hx:=h x (by simp)
  by_cases hr:r=[]
  ·subst hr
   rw[Lib.join_one]
   simp only[List.length_singleton,Nat.one_mul];omega
  ·rw[join_cons2 32 x hr,List.length_append,List.length_cons,List.length_cons,Nat.succ_mul]
   omega
theorem wRev_ne {w:Wr} {r:Rev} (h:(wRev w r).2=false):(wRev w r).1≠[]:=by
 unfold wRev at*
 split
 ·split
  ·simp[wWord]
  ·intro e
   have:=congrArg List.length e
   rw[wNums_len,wWord_len] at this
   simp at this
 ·rename_i hn
  rw[if_neg hn] at h;cases h
theorem wNums_ne {w:Wr} {l:List Int} (h:w.1≠[]):(wNums w l).1≠[]:=by
 intro e
 have:=congrArg List.length e
 rw[wNums_len] at this
 have h2:0<w.1.length:=List.length_pos_iff.2 h
 rw[List.length_nil] at this
 omega
theorem wFaults_ne {lo hi:Int}:∀{l:List Flaw} {w:Wr},w.1≠[]->(wFaults lo hi l w).1≠[]
 |[],_,h=>h
 |f::r,w,h=>by
  rw[wFaults]
  split
  ·exact wFaults_ne (by simp[wWord])
  ·exact h
theorem wWord_ne {w:Wr} {s:Bs}:(wWord w s).1≠[]:=by simp[wWord]
theorem wAct_ne {w:Wr} {x:Acx}:(wAct w x).2=false->(wAct w x).1≠[]:=by
 refine wAct_by (p:=fun u=>u.2=false->u.1≠[]) ?_ ?_ ?_ ?_ ?_ ?_ ?_ ?_ ?_ ?_ ?_ ?_ ?_ ?_
 ·intro _
  refine wFaults_ne (wFaults_ne ?_)
  split<;>exact wWord_ne
 ·exact fun _=>wNums_ne wWord_ne
 ·intro _;simp[wMsg]
 ·exact fun _=>wWord_ne
 ·exact wRev_ne
 all_goals first|exact fun _=>wNums_ne wWord_ne|exact fun _=>wWord_ne
open Go.Scr
abbrev lineV (o:Option Bs):AV:= .tup [S (strOf (o.getD [])),I (if o.isSome then 0 else 3)]
theorem lineS_no {x:Acx} (h:¬(1<=x.k/\x.k<=14/\x=only x/\(wAct ([],false) x).2=false)):lineV (lineS x)= .tup [S (strOf []),I 3]:=by
 unfold lineS
 rw[if_neg h];rfl
theorem line_sat (x:Acx) (hx:SmA x):SatG Tryz.prog tab 12 [] [x.av] [] (lineV (lineS x)):=by
 have h0:=spare_sat x (Nat.le_trans hx.mv (by decide)) (Nat.le_trans hx.gl (by decide))
 have h1:=wact_sat ([],false) x (by decide) hx.mv hx.gl hx.tx hx.rc hx.rs hx.fc hx.fs
 refine uFN Tryz.func12 Tryz.ntmps12 ?_;intro w e X hC
 repeat refine uA ?_
 by_cases c1:x.k<1
 ·have e1:decide (x.k<1)=true:=decide_eq_true c1
  rw[lineS_no (fun h=>by omega)]
  repeat refine uA1 @e1 ?_
  refine uT ?_
  repeat refine uA ?_
  refine awp_ret ?_;rw[show Tryz.f12.results.toList=[.tmp 2, .tmp 3] from rfl];first|refine uRN ?_|exact uRM
  rfl
 have e1:decide (x.k<1)=false:=decide_eq_false c1
 by_cases c2:14<x.k
 ·have e2:decide (14<x.k)=true:=decide_eq_true c2
  rw[lineS_no (fun h=>by omega)]
  repeat refine uA1 (uI @e1 @e2) ?_
  refine uT ?_
  repeat refine uA ?_
  refine awp_ret ?_;rw[show Tryz.f12.results.toList=[.tmp 2, .tmp 3] from rfl];first|refine uRN ?_|exact uRM
  rfl
 have e2:decide (14<x.k)=false:=decide_eq_false c2
 by_cases c3:¬x=only x
 ·rw[decide_eq_false c3] at h0
  rw[lineS_no (fun h=>c3 h.2.2.1)]
  refine uR1 (uI @e1 @e2) ?_;intro K hK
  refine uH ?_
  refine callF uTS (h0) uTS uTS uTS ?_;refine uS ?_
  refine hK _ ?_;clear hK K
  refine uT ?_
  repeat refine uA ?_
  refine awp_ret ?_;rw[show Tryz.f12.results.toList=[.tmp 2, .tmp 3] from rfl];first|refine uRN ?_|exact uRM
  rfl
 replace c3:=Decidable.not_not.1 c3
 rw[decide_eq_true c3] at h0
 refine uR1 (uI @e1 @e2) ?_;intro K hK
 refine uH ?_
 refine callF uTS (h0) uTS uTS uTS ?_;refine uS ?_
 refine hK _ ?_;clear hK K
 refine uF ?_
 repeat refine uA ?_
 refine awp_nil0 401 119 18 9 1 0 (by decide) rfl rfl rfl ?_
 have hne:=wAct_ne (w:=([],false)) (x:=x)
 have hln:=wAct_len ([],false) x
 have hbd:=Bd.act (m:=1000000) (by decide) (w:=([],false)) (fun s hs=>by cases hs) x hx.tx
 have hmv:=hx.mv
 have hgl:=hx.gl
 have hls:lineS x=if(wAct ([],false) x).2=false then some (Lib.join (wAct ([],false) x).1 [32]) else none:=by
  unfold lineS
  by_cases hb:(wAct ([],false) x).2=false
  ·rw[if_pos hb,if_pos ⟨by omega,by omega,c3,hb⟩]
  ·rw[if_neg hb,if_neg fun h=>hb h.2.2.2]
 generalize wAct ([],false) x=u at*
 obtain⟨ws,fl⟩:=u
 refine uR ?_;intro K hK
 refine callE [(0,0,119,18),(1,0,401,20)] [(119,18,0,0),(401,20,1,0)] true (h1) uTR uTR uTE uTE uTE uTE uTE uTE uTE uTE uTE uTE uTE uTE uTE uTE uTE ?_;refine uQS ?_
 refine hK _ ?_;clear hK K
 cases fl with
 |true=>
  rw[hls,if_neg (fun h=>by cases h)]
  repeat refine uA ?_
  refine uT ?_
  repeat refine uA ?_
  refine awp_ret ?_;rw[show Tryz.f12.results.toList=[.tmp 2, .tmp 3] from rfl];first|refine uRN ?_|exact uRM
  rfl
 |false=>
  rw[hls,if_pos rfl]
  have hw:ws≠[]:=hne rfl
  simp only[List.length_nil] at hln
  have hjl:(Lib.join ws [32]).length<=ws.length*(1000000+1):=join_len hbd
  have hn:ws.length<=2008:=by omega
  have hml:ws.length*(1000000+1)<=2008*(1000000+1):=Nat.mul_le_mul_right _ hn
  have hj:SatG Tryz.prog tab 36 [] [.sl (strs ws) false,S (strOf [32])] [] (S (strOf (Lib.join ws [32]))):=join_sat ws [32] hw (by omega) (by omega)
  repeat refine uA ?_
  refine uF ?_
  refine uR ?_;intro K hK
  refine uH ?_
  refine callE [] [] true (hj) uTR uTR uTE uTE uTE uTE uTE uTE uTE uTE uTE uTE uTE uTE uTE uTE uTE ?_;refine uQS ?_
  refine hK _ ?_;clear hK K
  refine awp_ret ?_;rw[show Tryz.f12.results.toList=[.tmp 2, .tmp 3] from rfl];first|refine uRN ?_|exact uRM
  rfl
open Go.Scr
def rdB (r:Rd):Hp:=[(0,some (0, .box [S (strOf r.line), .sl (strs r.ws) false,B r.bad]))]
theorem rdB_eq (r:Rd):rdB r=[(0,some (0, .box [S (strOf r.line), .sl (strs r.ws) false,B r.bad]))]:=rfl
attribute [go_sem] rdB_eq
theorem next_sat (r:Rd) (hr:r.ws.length<=1000000):SatG Tryz.prog tab 95 (rdB r) [.ptO 0 0 0 0 0] (rdB r.next.2) (S (strOf r.next.1)):=by
 obtain⟨li,ws,bad⟩:=r
 simp only at hr
 cases ws with
 |nil=>
  refine uFN Tryz.func95 Tryz.ntmps95 ?_;intro w e X hC
  repeat refine uA ?_
  refine uT ?_
  repeat refine uA ?_
  refine awp_ret ?_;rw[show Tryz.f95.results.toList=[.tmp 2] from rfl];(refine(retBs uRG rfl uTC uTC ?_ ?_);all_goals (first|refine uSC ?_|exact uXC|skip))
  ·rfl
  ·rfl
 |cons x ws=>
  have e1:=uDf (((ws.length+1:Nat):Int)=0)
  have e2:strs (x::ws)=S (strOf x)::strs ws:=rfl
  have e3:(S (strOf x)::strs ws).drop 1=strs ws:=rfl
  refine uFN Tryz.func95 Tryz.ntmps95 ?_;intro w e X hC
  repeat refine uA1 @e1 ?_
  refine uF ?_
  refine uR1 @e2 ?_;intro K hK
  refine uH ?_
  refine hK _ ?_;clear hK K
  repeat refine uA1 @e3 ?_
  refine awp_ret ?_;rw[show Tryz.f95.results.toList=[.tmp 2] from rfl];(refine(retBs uRG rfl uTC uTC ?_ ?_);all_goals (first|refine uSC ?_|exact uXC|skip))
  ·rfl
  ·rfl
theorem atoi_cases (s:Bs):(∃n,Scr.val s=some n/\atoiN s=n/\atoiE s= .lit .nilIface/\0<=n/\n<=999999)\/(Scr.val s=none/\atoiE s= .ifn)\/(Scr.val s=none/\atoiE s= .lit .nilIface/\(atoiN s<0\/(¬atoiN s<0/\999999<atoiN s))):=by
 unfold Scr.val atoiN atoiE
 cases h:Lib.atoiAll s with
 |ok v=>
  by_cases hv:0<=v/\v<=999999
  ·exact .inl ⟨v,if_pos hv,rfl,rfl,hv.1,hv.2⟩
  ·exact .inr (.inr ⟨if_neg hv,rfl,by show v<0\/(¬v<0/\999999<v);omega⟩)
 |_=>exact .inr (.inl ⟨rfl,rfl⟩)
theorem value_sat (r:Rd) (s:Bs) (hr:r.ws.length<=1000000) (hs:s.length<=1000000):SatG Tryz.prog tab 137 (rdB r) [.ptO 0 0 0 0 0,S (strOf s)] (rdB (r.value s).2) (I (r.value s).1):=by
 obtain⟨li,ws,bad⟩:=r
 simp only at hr
 have ha:=atoi_sat s (by omega)
 unfold Rd.value
 rcases atoi_cases s with ⟨n,h1,h2,h3,h4,h5⟩|⟨h1,h2⟩|⟨h1,h2,h3⟩
 ·rw[h1]
  rw[h2,h3] at ha
  have e1:=uDf (n<0)
  have e2:=uDf (999999<n)
  refine uFN Tryz.func137 Tryz.ntmps137 ?_;intro w e X hC
  refine uA ?_
  refine uR ?_;intro K hK
  refine callF uTS (ha) uTS uTS uTS ?_;refine uS ?_
  refine hK _ ?_;clear hK K
  repeat refine uA1 (uI @e1 @e2) ?_
  refine uF ?_
  repeat refine uA ?_
  refine awp_ret ?_;rw[show Tryz.f137.results.toList=[.tmp 4] from rfl];(refine(retBs uRG rfl uTC uTC ?_ ?_);all_goals (first|refine uSC ?_|exact uXC|skip))
 ·rw[h1]
  rw[h2] at ha
  generalize atoiN s=n at*
  refine uFN Tryz.func137 Tryz.ntmps137 ?_;intro w e X hC
  refine uA ?_
  refine uR ?_;intro K hK
  refine callF uTS (ha) uTS uTS uTS ?_;refine uS ?_
  refine hK _ ?_;clear hK K
  repeat refine uA ?_
  refine uT ?_
  repeat refine uA ?_
  refine awp_ret ?_;rw[show Tryz.f137.results.toList=[.tmp 4] from rfl];(refine(retBs uRG rfl uTC uTC ?_ ?_);all_goals (first|refine uSC ?_|exact uXC|skip))
 ·rw[h1]
  rw[h2] at ha
  generalize atoiN s=n at*
  rcases h3 with h3|⟨h3,h4⟩
  ·have e1:decide (n<0)=true:=decide_eq_true h3
   refine uFN Tryz.func137 Tryz.ntmps137 ?_;intro w e X hC
   refine uA ?_
   refine uR ?_;intro K hK
   refine callF uTS (ha) uTS uTS uTS ?_;refine uS ?_
   refine hK _ ?_;clear hK K
   repeat refine uA1 @e1 ?_
   refine uT ?_
   repeat refine uA ?_
   refine awp_ret ?_;rw[show Tryz.f137.results.toList=[.tmp 4] from rfl];(refine(retBs uRG rfl uTC uTC ?_ ?_);all_goals (first|refine uSC ?_|exact uXC|skip))
  ·have e1:decide (n<0)=false:=decide_eq_false h3
   have e2:decide (999999<n)=true:=decide_eq_true h4
   refine uFN Tryz.func137 Tryz.ntmps137 ?_;intro w e X hC
   refine uA ?_
   refine uR ?_;intro K hK
   refine callF uTS (ha) uTS uTS uTS ?_;refine uS ?_
   refine hK _ ?_;clear hK K
   repeat refine uA1 (uI @e1 @e2) ?_
   refine uT ?_
   repeat refine uA ?_
   refine awp_ret ?_;rw[show Tryz.f137.results.toList=[.tmp 4] from rfl];(refine(retBs uRG rfl uTC uTC ?_ ?_);all_goals (first|refine uSC ?_|exact uXC|skip))
theorem next_len (r:Rd):r.next.2.ws.length<=r.ws.length:=by
 obtain⟨li,ws,bad⟩:=r
 cases ws with
 |nil=>exact Nat.le_refl _
 |cons x ws=>exact Nat.le_succ _
theorem value_ws (r:Rd) (s:Bs):(r.value s).2.ws=r.ws:=by
 unfold Rd.value
 split<;>rfl
theorem next_line (r:Rd):r.next.2.line=r.line:=by
 obtain⟨li,ws,bad⟩:=r
 cases ws<;>rfl
structure RdOk (r:Rd):Prop where
 n:r.ws.length<=1000000
 w:∀s∈r.ws,s.length<=1000000
theorem RdOk.next {r:Rd} (h:RdOk r):RdOk r.next.2/\r.next.1.length<=1000000:=by
 obtain⟨li,ws,bad⟩:=r
 cases ws with
 |nil=>exact⟨⟨h.n,h.w⟩,Nat.zero_le _⟩
 |cons x ws=>exact⟨⟨Nat.le_trans (Nat.le_succ _) h.n,fun s hs=>h.w s (List.mem_cons_of_mem _ hs)⟩,h.w x (by simp)⟩
theorem RdOk.value {r:Rd} (h:RdOk r) (s:Bs):RdOk (r.value s).2:=⟨by rw[value_ws];exact h.n,by rw[value_ws];exact h.w⟩
theorem RdOk.number {r:Rd} (h:RdOk r):RdOk r.number.2:=h.next.1.value _
theorem RdOk.plate {r:Rd} (h:RdOk r):RdOk r.plate.2:=⟨h.next.1.n,h.next.1.w⟩
theorem RdOk.flight {r:Rd} (h:RdOk r):RdOk r.flight.2:=⟨h.next.1.n,h.next.1.w⟩
theorem number_sat (r:Rd) (hr:RdOk r):SatG Tryz.prog tab 119 (rdB r) [.ptO 0 0 0 0 0] (rdB r.number.2) (I r.number.1):=by
 have h1:=next_sat r hr.n
 have h2:=value_sat r.next.2 r.next.1 hr.next.1.n hr.next.2
 unfold Rd.number
 generalize r.next=x at*
 generalize x.2.value x.1=y at*
 refine uFN Tryz.func119 Tryz.ntmps119 ?_;intro w e X hC
 repeat refine uA ?_
 refine uR ?_;intro K hK
 refine callL rfl (h1) uTS uTS uTS uTS uTS ?_;refine uS ?_
 refine callL rfl (h2) uTS uTS uTS uTS uTS ?_;refine uS ?_
 refine hK _ ?_;clear hK K
 refine awp_ret ?_;rw[show Tryz.f119.results.toList=[.tmp 2] from rfl];(refine(retBs uRG rfl uTC uTC ?_ ?_);all_goals (first|refine uSC ?_|exact uXC|skip))
theorem plate_sat (r:Rd) (hr:RdOk r):SatG Tryz.prog tab 118 (rdB r) [.ptO 0 0 0 0 0] (rdB r.plate.2) (Plt.av r.plate.1):=by
 have h1:=next_sat r hr.n
 have h2:=pparse_sat r.next.1 hr.next.2
 unfold Rd.plate
 rw[<-next_line r]
 generalize r.next=x at*
 generalize pltParse x.1=y at*
 obtain⟨z,li,ws,bad⟩:=x
 refine uFN Tryz.func118 Tryz.ntmps118 ?_;intro w e X hC
 repeat refine uA ?_
 refine uR ?_;intro K hK
 refine callL rfl (h1) uTS uTS uTS uTS uTS ?_;refine uS ?_
 refine callF uTS (h2) uTS uTS uTS ?_;refine uS ?_
 refine uH ?_
 refine hK _ ?_;clear hK K
 cases bad with
 |true=>
  repeat refine uA ?_
  refine awp_ret ?_;rw[show Tryz.f118.results.toList=[.cell 2 24] from rfl];(refine(retBs uRG rfl uTC uTC ?_ ?_);all_goals (first|refine uSC ?_|exact uXC|skip))
  rfl
 |false=>
  repeat refine uA ?_
  refine awp_ret ?_;rw[show Tryz.f118.results.toList=[.cell 2 24] from rfl];(refine(retBs uRG rfl uTC uTC ?_ ?_);all_goals (first|refine uSC ?_|exact uXC|skip))
  simp only[decide_not,Bool.false_or]
theorem flight_sat (r:Rd) (hr:RdOk r):SatG Tryz.prog tab 121 (rdB r) [.ptO 0 0 0 0 0] (rdB r.flight.2) (Flt.av r.flight.1):=by
 have h1:=next_sat r hr.n
 have h2:=fparse_sat r.next.1 hr.next.2
 unfold Rd.flight
 rw[<-next_line r]
 generalize r.next=x at*
 generalize fltParse x.1=y at*
 obtain⟨z,li,ws,bad⟩:=x
 refine uFN Tryz.func121 Tryz.ntmps121 ?_;intro w e X hC
 repeat refine uA ?_
 refine uR ?_;intro K hK
 refine callL rfl (h1) uTS uTS uTS uTS uTS ?_;refine uS ?_
 refine callF uTS (h2) uTS uTS uTS ?_;refine uS ?_
 refine uH ?_
 refine hK _ ?_;clear hK K
 cases bad with
 |true=>
  repeat refine uA ?_
  refine awp_ret ?_;rw[show Tryz.f121.results.toList=[.cell 2 26] from rfl];(refine(retBs uRG rfl uTC uTC ?_ ?_);all_goals (first|refine uSC ?_|exact uXC|skip))
  rfl
 |false=>
  repeat refine uA ?_
  refine awp_ret ?_;rw[show Tryz.f121.results.toList=[.cell 2 26] from rfl];(refine(retBs uRG rfl uTC uTC ?_ ?_);all_goals (first|refine uSC ?_|exact uXC|skip))
  simp only[decide_not,Bool.false_or]
open Go.Scr
theorem split_eq (c:UInt8) (l:Bs):((Lib.splitB ⟨#[c]⟩ 0 (Lib.countB (strOf l) ⟨#[c]⟩) (strOf l)).map Value.string).map AV.lit=strs (splitL c l):=by
 have h:=splitB_eq c (strOf l)
 rw[str_list] at h
 rw[<-h]
 simp only[strs,List.map_map]
 refine List.map_congr_left fun x _=>?_
 simp only[Function.comp_apply,str_eta]
theorem splitS_sat (c:UInt8) (l:Bs) (hl:l.length<=1000000):SatG Tryz.prog tab 43 [] [S (strOf l),S (strOf [c])] [(100,some (1, .own 9 1 (strs (splitL c l))))] (.slO 100 1 0 (splitL c l).length):=by
 have h:=split_sat (strOf l) ⟨#[c]⟩ (by rw[str_size];omega) (by show 1<=1;exact Nat.le_refl _)
 have e:=split_eq c l
 have e2:((Lib.splitB ⟨#[c]⟩ 0 (Lib.countB (strOf l) ⟨#[c]⟩) (strOf l)).map Value.string).length=(splitL c l).length:=by
  have:=congrArg List.length e
  rw[strs_length,List.length_map] at this
  exact this
 rw[e,e2] at h
 exact h
theorem strs_dropc {l:List Bs} {i:Nat} (h:i<l.length):(strs l).drop (i*1)=S (strOf (l.getD i []))::strs (l.drop (i+1)):=by
 rw[Nat.mul_one,strs_drop,List.drop_eq_getElem_cons h,List.getD_eq_getElem?_getD,List.getElem?_eq_getElem h];rfl
theorem kindOf_tab {i:Nat} (h1:1<=i) (h2:i<7):kindOf (tabF.getD i [])=i:=by
 rcases(by omega:i=1\/i=2\/i=3\/i=4\/i=5\/i=6) with rfl|rfl|rfl|rfl|rfl|rfl<;>decide
theorem kindOf_no {s:Bs} (h:∀j,1<=j->j<7->tabF.getD j []≠s):kindOf s=0:=by
 unfold kindOf
 rw[if_neg (fun e=>h 1 (by decide) (by decide) e.symm),if_neg (fun e=>h 2 (by decide) (by decide) e.symm),if_neg (fun e=>h 3 (by decide) (by decide) e.symm),
  if_neg (fun e=>h 4 (by decide) (by decide) e.symm),if_neg (fun e=>h 5 (by decide) (by decide) e.symm),if_neg (fun e=>h 6 (by decide) (by decide) e.symm)]
theorem RdOk.fault {r:Rd} (h:RdOk r) (s:Bs):RdOk (r.fault s).2:=by
 unfold Rd.fault
 split
 ·exact(h.value _).value _
 ·exact⟨h.n,h.w⟩
theorem fault_sat (r:Rd) (s:Bs) (hr:RdOk r) (hs:s.length<=1000000):SatG Tryz.prog tab 117 (rdB r) [.ptO 0 0 0 0 0,S (strOf s)] (rdB (r.fault s).2) (r.fault s).1.av:=by
 have h0:=splitS_sat 58 s hs
 have hlen:=splitL_len 58 s
 have hv:∀(q:Rd) (t:Bs),RdOk q->t∈splitL 58 s->SatG Tryz.prog tab 137 (rdB q) [.ptO 0 0 0 0 0,S (strOf t)] (rdB (q.value t).2) (I (q.value t).1):=fun q t h h'=>value_sat q t h.n (Nat.le_trans (hlen t h') hs)
 have hbad:¬((splitL 58 s).length=3/\kindOf ((splitL 58 s).getD 0 [])≠0)->r.fault s=(W0,⟨r.line,r.ws,true⟩):=fun h=>by unfold Rd.fault;rw[if_neg h]
 have hgood:(splitL 58 s).length=3->kindOf ((splitL 58 s).getD 0 [])≠0->r.fault s=(⟨kindOf ((splitL 58 s).getD 0 []),(r.value ((splitL 58 s).getD 1 [])).1,((r.value ((splitL 58 s).getD 1 [])).2.value ((splitL 58 s).getD 2 [])).1⟩,
   ((r.value ((splitL 58 s).getD 1 [])).2.value ((splitL 58 s).getD 2 [])).2):=fun h h'=>by unfold Rd.fault;rw[if_pos ⟨h,h'⟩]
 generalize splitL 58 s=ps at*
 refine uFN Tryz.func117 Tryz.ntmps117 ?_;intro w e X hC
 repeat refine uA ?_
 refine uR ?_;intro K hK
 refine callE [] [(109,3,100,1)] false (h0) uTR uTR uTE uTE uTE uTE uTE uTE uTE uTE uTE uTE uTE uTE uTE uTE uTE ?_;refine uQS ?_
 refine hK _ ?_;clear hK K
 repeat refine uA ?_
 refine uW ?_;refine condP _ rfl (fun c0=>?_) (fun c0=>?_)
 ·rw[hbad (fun h=>c0 (by omega))]
  repeat refine uA ?_
  refine awp_ret ?_;rw[show Tryz.f117.results.toList=[.cell 4 79] from rfl];(refine(retBs uRG rfl uTC uTC ?_ ?_);all_goals (first|refine uSC ?_|exact uXC|skip))
  ·rfl
 have c0:ps.length=3:=by omega
 have m1:ps.getD 1 []∈ps:=by rw[List.getD_eq_getElem?_getD,List.getElem?_eq_getElem (by omega)];exact List.getElem_mem _
 have m2:ps.getD 2 []∈ps:=by rw[List.getD_eq_getElem?_getD,List.getElem?_eq_getElem (by omega)];exact List.getElem_mem _
 have v1:=hv r _ hr m1
 have v2:=hv (r.value (ps.getD 1 [])).2 _ (hr.value _) m2
 have g0:=strs_getD (l:=ps) (i:=0) (by omega)
 have g1:=strs_getD (l:=ps) (i:=1) (by omega)
 have g2:=strs_getD (l:=ps) (i:=2) (by omega)
 have htk:(strs tabF).take 7=strs tabF:=rfl
 refine uR1 (uI @gl1 @htk) ?_;intro K hK
 refine⟨by decide,?_⟩
 refine hK _ ?_;clear hK K
 refine uW ?_
 refine awp_loopW (fun i:Nat×Nat=>⟨[(0, .ptO 0 0 0 0 0),(4, .ptO 104 1 0 0 0),(5, .sl (strs ps) false),(17, .agg (strs tabF)),(18,I i.2)],(104,some (1, .box [I 0,I 0,I 0]))::rdB r,i.1⟩) (fun i=>i.2<=7/\∀j,1<=j->j<i.2->tabF.getD j []≠ps.getD 0 []) (fun i=>7 - i.2) (_,0) ⟨Nat.zero_le _,fun j _ h=>absurd h (Nat.not_lt_zero _)⟩ (uKF) ?_
 rintro⟨ck,i⟩ ⟨hi,hj⟩
 simp only at hi hj
 repeat refine uA ?_
 refine uW ?_;refine condP _ rfl (fun h=>?_) (fun h=>?_)
 ·have hlt:i<7:=by omega
  have gi:=strs_dropc (l:=tabF) (i:=i) (by show i<7;exact hlt)
  by_cases c1:0<i
  ·have e1:=uDt (0<(i:Int))
   by_cases c2:tabF.getD i []=ps.getD 0 []
   ·have e2:decide (tabF.getD i []=ps.getD 0 [])=true:=decide_eq_true c2
    have hk:=kindOf_tab (i:=i) (by omega) hlt
    rw[c2] at hk
    rw[hgood c0 (by rw[hk];omega),hk]
    repeat refine uA1 (uI @gi (uI @g0 (uI @e1 @e2))) ?_
    refine uT ?_
    refine uD1 (uI @g1 @g2) ?_;intro K hK
    refine uH ?_
    refine callL rfl (v1) uTS uTS uTS uTS uTS ?_;refine uS ?_
    first|refine uS1 (uI @g1 @g2) ?_|exact uX1 (uI @g1 @g2)
    refine uH ?_
    refine callL rfl (v2) uTS uTS uTS uTS uTS ?_;refine uS ?_
    refine uH ?_
    refine hK _ ?_;clear hK K
    refine awp_ret ?_;rw[show Tryz.f117.results.toList=[.cell 4 79] from rfl];(refine(retBs uRG rfl uTC uTC ?_ ?_);all_goals (first|refine uSC ?_|exact uXC|skip))
   ·have e2:decide (tabF.getD i []=ps.getD 0 [])=false:=decide_eq_false c2
    repeat refine uA1 (uI @gi (uI @g0 (uI @e1 @e2))) ?_
    refine uF ?_
    repeat refine uA ?_
    refine⟨(_,i+1),⟨by simp only;omega,fun j h1 h2=>?_⟩,by simp only;omega,uKF⟩
    by_cases hji:j=i
    ·subst hji;exact c2
    ·exact hj j h1 (by simp only at h2;omega)
  ·have e1:=uDf (0<(i:Int))
   repeat refine uA1 (uI @gi (uI @g0 @e1)) ?_
   refine uF ?_
   repeat refine uA ?_
   refine⟨(_,i+1),⟨by simp only;omega,fun j h1 h2=>by simp only at h2;omega⟩,by simp only;omega,uKF⟩
 ·refine awp_exit ?_
  have h7:i=7:=by omega
  subst h7
  rw[hbad (fun h=>h.2 (kindOf_no hj))]
  repeat refine uA ?_
  refine awp_ret ?_;rw[show Tryz.f117.results.toList=[.cell 4 79] from rfl];(refine(retBs uRG rfl uTC uTC ?_ ?_);all_goals (first|refine uSC ?_|exact uXC|skip))
  ·rfl
open Go.Scr
theorem faults_stop {n:Nat} {r:Rd} {m g:List Flaw} (h:¬(r.ws≠[]/\r.bad=false)):Rd.faults n r m g=(m,g,r):=by
 cases n with
 |zero=>rfl
 |succ n=>rw[Rd.faults,if_neg h]
theorem faults_go {n:Nat} {r:Rd} {m g:List Flaw} (h:r.ws≠[]/\r.bad=false) (hn:r.ws.length<=n):∃k,n=k+1/\r.next.2.ws.length<=k/\r.next.2.ws.length<r.ws.length/\
  Rd.faults n r m g=if(r.next.2.fault r.next.1).1.k<=2 then Rd.faults k (r.next.2.fault r.next.1).2 (m++[(r.next.2.fault r.next.1).1]) g
    else Rd.faults k (r.next.2.fault r.next.1).2 m (g++[(r.next.2.fault r.next.1).1]):=by
 obtain⟨li,ws,bad⟩:=r
 cases ws with
 |nil=>exact absurd rfl h.1
 |cons x ws=>
  cases n with
  |zero=>simp at hn
  |succ k=>exact⟨k,rfl,Nat.le_of_succ_le_succ hn,Nat.lt_succ_self _,by rw[Rd.faults,if_pos h]⟩
theorem fault_ws (r:Rd) (s:Bs):(r.fault s).2.ws=r.ws:=by
 unfold Rd.fault
 split
 ·rw[value_ws,value_ws]
 ·rfl
theorem tick_sat (r:Rd) (hr:RdOk r) (hn:r.ws.length<=1000):SatG Tryz.prog tab 77 (rdB r) [.ptO 0 0 0 0 0] (rdB r.tick.2) r.tick.1.av:=by
 have ht:∃(lost:Bool) (q:Rd),RdOk q/\q.ws.length<=r.ws.length/\(lost=true->r.ws.head?=some sLost/\q=r.next.2)/\(lost=false->r.ws.head?≠some sLost/\q=r)/\
   r.tick=({A0 1 with lost:=lost,mv:=(Rd.faults r.ws.length q [] []).1,gl:=(Rd.faults r.ws.length q [] []).2.1},(Rd.faults r.ws.length q [] []).2.2):=by
  by_cases h:r.ws.head?=some sLost
  ·refine⟨true,r.next.2,hr.next.1,next_len r,fun _=>⟨h,rfl⟩,nofun,?_⟩
   unfold Rd.tick;rw[if_pos h]
  ·refine⟨false,r,hr,Nat.le_refl _,nofun,fun _=>⟨h,rfl⟩,?_⟩
   unfold Rd.tick;rw[if_neg h];rfl
 obtain⟨lost,q,hq,hql,hl1,hl2,ht⟩:=ht
 rw[ht]
 refine uFN Tryz.func77 Tryz.ntmps77 ?_;intro w e X hC
 repeat refine uA ?_
 refine awp_seq ?_
 refine awp_merge (fun c:Nat=>⟨[(0, .ptO 0 0 0 0 0),(2, .ptO 102 1 0 0 0),(3, .ptO 103 3 0 0 0)],(103,some (3, .box [I 1, .sl [] true, .sl [] true,B lost,I 0,I 0,I 0,I 0,I 0,B false, .lit (.string .empty),I 0,I 0, .lit (.string .empty),I 0, .lit (.string .empty),I 0,I 0,I 0, .lit (.string .empty),I 0, .lit (.string .empty),I 0]))::(102,some (1, .box [I 0, .sl [] true, .sl [] true,B false,I 0,I 0,I 0,I 0,I 0,B false, .lit (.string .empty),I 0,I 0, .lit (.string .empty),I 0, .lit (.string .empty),I 0,I 0,I 0, .lit (.string .empty),I 0, .lit (.string .empty),I 0]))::rdB q,c⟩) (fun _=>True) ?_ ?_
 ·cases lost with
  |true=>
   obtain⟨h1,h2⟩:=hl1 rfl
   have h3:=next_sat r hr.n
   rw[<-h2] at h3
   obtain⟨li,ws,bad⟩:=r
   cases ws with
   |nil=>cases h1
   |cons x ws=>
    have hx:x=sLost:=by simpa using h1
    have e1:=uDt (0<((ws.length+1:Nat):Int))
    have e2:strs (x::ws)=S (strOf x)::strs ws:=rfl
    have e4:decide (x=[108,111,115,116])=true:=decide_eq_true hx
    repeat refine uA1 (uI @e1 (uI @e2 @e4)) ?_
    refine uT ?_
    refine uR ?_;intro K hK
    refine uH ?_
    refine callL rfl (h3) uTS uTS uTS uTS uTS ?_;refine uS ?_
    refine hK _ ?_;clear hK K
    repeat refine uA ?_
    refine uW ?_
    refine⟨_,trivial,uKF⟩
  |false=>
   obtain⟨h1,h2⟩:=hl2 rfl
   subst h2
   obtain⟨li,ws,bad⟩:=q
   cases ws with
   |nil=>
    have e1:decide (0<((0:Nat):Int))=false:=decide_eq_false (by decide)
    repeat refine uA1 @e1 ?_
    refine uF ?_
    refine uW ?_
    refine⟨_,trivial,uKF⟩
   |cons x ws=>
    have hx:¬x=sLost:=fun h=>h1 (by rw[h];rfl)
    have e1:=uDt (0<((ws.length+1:Nat):Int))
    have e2:strs (x::ws)=S (strOf x)::strs ws:=rfl
    have e4:decide (x=[108,111,115,116])=false:=decide_eq_false hx
    repeat refine uA1 (uI @e1 (uI @e2 @e4)) ?_
    refine uF ?_
    refine uW ?_
    refine⟨_,trivial,uKF⟩
 intro ck _
 refine awp_nil0 401 103 3 79 3 1 (by decide) rfl rfl rfl ?_
 refine awp_nil0 402 103 3 79 3 2 (by decide) rfl rfl rfl ?_
 generalize hT:Rd.faults r.ws.length q [] []=T
 generalize hN:r.ws.length=N at*
 refine uW ?_
 refine awp_loopW (fun i:Nat×Nat×Nat×Nat×Scr.Rd×List Flaw×List Flaw=>⟨[(0, .ptO 0 0 0 0 0),(2, .ptO 102 1 0 0 0),(3, .ptO 103 3 0 0 0)],(103,some (3, .box [I 1, .slO 401 i.2.1 0 i.2.2.2.2.2.1.length, .slO 402 i.2.2.1 0 i.2.2.2.2.2.2.length,B lost,I 0,I 0,I 0,I 0,I 0,B false, .lit (.string .empty),I 0,I 0, .lit (.string .empty),I 0, .lit (.string .empty),I 0,I 0,I 0, .lit (.string .empty),I 0, .lit (.string .empty),I 0]))::(401,some (i.2.1, .own 79 3 (flaws i.2.2.2.2.2.1)))::(402,some (i.2.2.1, .own 79 3 (flaws i.2.2.2.2.2.2)))::(102,some (1, .box [I 0, .sl [] true, .sl [] true,B false,I 0,I 0,I 0,I 0,I 0,B false, .lit (.string .empty),I 0,I 0, .lit (.string .empty),I 0, .lit (.string .empty),I 0,I 0,I 0, .lit (.string .empty),I 0, .lit (.string .empty),I 0]))::rdB i.2.2.2.2.1,i.1⟩)
  (fun i=>RdOk i.2.2.2.2.1/\i.2.2.2.2.1.ws.length<=i.2.2.2.1/\i.2.2.2.2.2.1.length+i.2.2.2.2.2.2.length+i.2.2.2.2.1.ws.length<=N/\Rd.faults i.2.2.2.1 i.2.2.2.2.1 i.2.2.2.2.2.1 i.2.2.2.2.2.2=T) (fun i=>i.2.2.2.2.1.ws.length) (_,ck,ck+1,N,q,[],[]) ⟨hq,hql,by simpa using hql,hT⟩ (uKF) ?_
 rintro⟨ck2,ga,gb,n,p,m,g⟩ ⟨hp,hpn,hpl,hpT⟩
 simp only at hp hpn hpl hpT
 by_cases hgo:p.ws≠[]/\p.bad=false
 ·obtain⟨k,hk1,hk2,hk3,hk4⟩:=faults_go (m:=m) (g:=g) hgo hpn
  rw[hk4] at hpT
  have h1:=next_sat p hp.n
  have h2:=fault_sat p.next.2 p.next.1 hp.next.1 hp.next.2
  have hok:=hp.next.1.fault p.next.1
  have hws:=fault_ws p.next.2 p.next.1
  generalize p.next=y at*
  generalize y.2.fault y.1=z at*
  obtain⟨li,ws,bad⟩:=p
  obtain⟨hg1,hg2⟩:=hgo
  simp only at hg1 hg2
  subst hg2
  cases ws with
  |nil=>exact absurd rfl hg1
  |cons x ws=>
   have hw2:z.2.ws.length=y.2.ws.length:=by rw[hws]
   simp only[List.length_cons] at hpl hk3 hpn
   have e1:=uDt (0<((ws.length+1:Nat):Int))
   repeat refine uA1 @e1 ?_
   refine uT ?_
   refine uR ?_;intro K hK
   refine uH ?_
   refine callL rfl (h1) uTS uTS uTS uTS uTS ?_;refine uS ?_
   refine callL rfl (h2) uTS uTS uTS uTS uTS ?_;refine uS ?_
   refine uH ?_
   refine hK _ ?_;clear hK K
   by_cases c3:z.1.k<=2
   ·have e3:decide (z.1.k<=2)=true:=decide_eq_true c3
    rw[if_pos c3] at hpT
    have hml:(m++[(⟨z.1.k,z.1.n,z.1.w⟩:Flaw)]).length=m.length+1:=by simp
    repeat refine uA1 @e3 ?_
    refine uT ?_
    repeat refine uA ?_
    refine uW ?_
    refine⟨(_,ga,gb,k,z.2,m++[⟨z.1.k,z.1.n,z.1.w⟩],g),⟨hok,by simp only;omega,by simp only[List.length_append,List.length_singleton];omega,hpT⟩,by simp only[List.length_cons];omega, .of (Nat.le_refl _) (uHF1 @hml) uWF⟩
   ·have e3:decide (z.1.k<=2)=false:=decide_eq_false c3
    rw[if_neg c3] at hpT
    have hml:(g++[(⟨z.1.k,z.1.n,z.1.w⟩:Flaw)]).length=g.length+1:=by simp
    repeat refine uA1 @e3 ?_
    refine uF ?_
    repeat refine uA ?_
    refine uW ?_
    refine⟨(_,ga,gb,k,z.2,m,g++[⟨z.1.k,z.1.n,z.1.w⟩]),⟨hok,by simp only;omega,by simp only[List.length_append,List.length_singleton];omega,hpT⟩,by simp only[List.length_cons];omega, .of (Nat.le_refl _) (uHF1 @hml) uWF⟩
 ·rw[faults_stop hgo] at hpT
  rw[<-hpT]
  obtain⟨li,ws,bad⟩:=p
  simp only at hgo
  cases ws with
  |nil=>
   have e1:decide (0<((0:Nat):Int))=false:=decide_eq_false (by decide)
   repeat refine uA1 @e1 ?_
   refine uF ?_
   refine awp_exit ?_
   repeat refine uA ?_
   refine awp_ret ?_;rw[show Tryz.f77.results.toList=[.cell 2 30] from rfl];(refine(retBs uRG rfl uTC uTC ?_ ?_);all_goals (first|refine uSC ?_|exact uXC|skip))
   ·rfl
  |cons x ws=>
   cases bad with
   |false=>exact absurd ⟨by simp,rfl⟩ hgo
   |true=>
    have e1:=uDt (0<((ws.length+1:Nat):Int))
    repeat refine uA1 @e1 ?_
    refine uF ?_
    refine awp_exit ?_
    repeat refine uA ?_
    refine awp_ret ?_;rw[show Tryz.f77.results.toList=[.cell 2 30] from rfl];(refine(retBs uRG rfl uTC uTC ?_ ?_);all_goals (first|refine uSC ?_|exact uXC|skip))
    ·rfl
open Go.Scr
theorem cut_len (s:Bs) (c:UInt8):(Lib.cut s [c]).2.1.length<=s.length:=by
 rcases firstOf c s with h|⟨w,r,rfl,h⟩
 ·rw[cut_not h];exact Nat.zero_le _
 ·rw[cut_at h]
  simp only[List.length_append,List.length_cons];omega
theorem message_sat (r:Scr.Rd) (hl:r.line.length<=1000000):SatG Tryz.prog tab 79 (rdB r) [.ptO 0 0 0 0 0] (rdB r.message.2) r.message.1.av:=by
 have h1:=cut_sat r.line [32] (by omega)
 have hcl:=cut_len r.line 32
 unfold Rd.message
 generalize Lib.cut r.line [32]=c at*
 obtain⟨a,b,ok⟩:=c
 simp only at hcl
 have hct:=Lib.count_le b [124]
 have h2:=replaceAll_sat b [124] [10] (by omega) (by decide) (by
  show b.length+Lib.count (strOf b).data.toList (strOf [124]).data.toList*1<=_
  rw[str_list,str_list];omega)
 rw[replaceAll_eq (by decide)] at h2
 obtain⟨li,ws,bad⟩:=r
 refine uFN Tryz.func79 Tryz.ntmps79 ?_;intro w e X hC
 repeat refine uA ?_
 refine uR ?_;intro K hK
 refine uH ?_
 refine callF uTS (h1) uTS uTS uTS ?_;refine uS ?_
 refine hK _ ?_;clear hK K
 cases bad with
 |true=>
  repeat refine uA ?_
  refine uR ?_;intro K hK
  refine uH ?_
  refine callF uTS (h2) uTS uTS uTS ?_;refine uS ?_
  refine hK _ ?_;clear hK K
  refine awp_ret ?_;rw[show Tryz.f79.results.toList=[.cell 2 30] from rfl];(refine(retBs uRG rfl uTC uTC ?_ ?_);all_goals (first|refine uSC ?_|exact uXC|skip))
  ·rfl
  ·rfl
 |false=>
  repeat refine uA ?_
  refine uR ?_;intro K hK
  refine uH ?_
  refine callF uTS (h2) uTS uTS uTS ?_;refine uS ?_
  refine hK _ ?_;clear hK K
  refine awp_ret ?_;rw[show Tryz.f79.results.toList=[.cell 2 30] from rfl];(refine(retBs uRG rfl uTC uTC ?_ ?_);all_goals (first|refine uSC ?_|exact uXC|skip))
  ·rfl
  ·rfl
theorem verdict_sat (r:Scr.Rd) (hr:RdOk r):SatG Tryz.prog tab 80 (rdB r) [.ptO 0 0 0 0 0] (rdB r.verdict.2) r.verdict.1.av:=by
 have h1:=number_sat r hr
 have h2:=next_sat r.number.2 hr.number.n
 unfold Rd.verdict
 generalize r.number=x at*
 generalize x.2.next=y at*
 refine uFN Tryz.func80 Tryz.ntmps80 ?_;intro w e X hC
 repeat refine uA ?_
 refine uR ?_;intro K hK
 refine uH ?_
 refine callL rfl (h1) uTS uTS uTS uTS uTS ?_;refine uS ?_
 refine callL rfl (h2) uTS uTS uTS uTS uTS ?_;refine uS ?_
 refine uH ?_
 refine hK _ ?_;clear hK K
 refine awp_ret ?_;rw[show Tryz.f80.results.toList=[.cell 2 30] from rfl];(refine(retBs uRG rfl uTC uTC ?_ ?_);all_goals (first|refine uSC ?_|exact uXC|skip))
 ·rfl
theorem revise_sat (k:Int) (r:Scr.Rd) (hr:RdOk r):SatG Tryz.prog tab 120 (rdB r) [.ptO 0 0 0 0 0,I k] (rdB (Rd.revise k r).2) (Rd.revise k r).1.av:=by
 have h1:=flight_sat r hr
 have h2:=number_sat r.flight.2 hr.flight
 unfold Rd.revise
 generalize r.flight=x at*
 generalize x.2.number=y at*
 refine uFN Tryz.func120 Tryz.ntmps120 ?_;intro w e X hC
 repeat refine uA ?_
 refine uR ?_;intro K hK
 refine uH ?_
 refine callL rfl (h1) uTS uTS uTS uTS uTS ?_;refine uS ?_
 refine uH ?_
 refine hK _ ?_;clear hK K
 by_cases c:k<=3
 ·have e1:decide (k<=3)=true:=decide_eq_true c
  rw[if_pos c]
  repeat refine uA1 @e1 ?_
  refine uT ?_
  refine uR ?_;intro K hK
  refine uH ?_
  refine callL rfl (h2) uTS uTS uTS uTS uTS ?_;refine uS ?_
  refine uH ?_
  refine hK _ ?_;clear hK K
  repeat refine uA ?_
  refine awp_ret ?_;rw[show Tryz.f120.results.toList=[.cell 4 30] from rfl];(refine(retBs uRG rfl uTC uTC ?_ ?_);all_goals (first|refine uSC ?_|exact uXC|skip))
  ·rfl
 ·have e1:decide (k<=3)=false:=decide_eq_false c
  rw[if_neg c]
  repeat refine uA1 @e1 ?_
  refine uF ?_
  repeat refine uA ?_
  refine awp_ret ?_;rw[show Tryz.f120.results.toList=[.cell 4 30] from rfl];(refine(retBs uRG rfl uTC uTC ?_ ?_);all_goals (first|refine uSC ?_|exact uXC|skip))
  ·rfl
theorem delay_sat (r:Scr.Rd) (hr:RdOk r):SatG Tryz.prog tab 81 (rdB r) [.ptO 0 0 0 0 0] (rdB (Rd.revise 1 r).2) (Rd.revise 1 r).1.av:=by
 have h1:=revise_sat 1 r hr
 generalize Rd.revise 1 r=x at*
 refine uFN Tryz.func81 Tryz.ntmps81 ?_;intro w e X hC
 repeat refine uA ?_
 refine uR ?_;intro K hK
 refine callL rfl (h1) uTS uTS uTS uTS uTS ?_;refine uS ?_
 refine uH ?_
 refine hK _ ?_;clear hK K
 refine awp_ret ?_;rw[show Tryz.f81.results.toList=[.cell 2 30] from rfl];(refine(retBs uRG rfl uTC uTC ?_ ?_);all_goals (first|refine uSC ?_|exact uXC|skip))
theorem opens_sat (r:Scr.Rd) (hr:RdOk r):SatG Tryz.prog tab 82 (rdB r) [.ptO 0 0 0 0 0] (rdB (Rd.revise 2 r).2) (Rd.revise 2 r).1.av:=by
 have h1:=revise_sat 2 r hr
 generalize Rd.revise 2 r=x at*
 refine uFN Tryz.func82 Tryz.ntmps82 ?_;intro w e X hC
 repeat refine uA ?_
 refine uR ?_;intro K hK
 refine callL rfl (h1) uTS uTS uTS uTS uTS ?_;refine uS ?_
 refine uH ?_
 refine hK _ ?_;clear hK K
 refine awp_ret ?_;rw[show Tryz.f82.results.toList=[.cell 2 30] from rfl];(refine(retBs uRG rfl uTC uTC ?_ ?_);all_goals (first|refine uSC ?_|exact uXC|skip))
theorem stand_sat (r:Scr.Rd) (hr:RdOk r):SatG Tryz.prog tab 83 (rdB r) [.ptO 0 0 0 0 0] (rdB (Rd.revise 3 r).2) (Rd.revise 3 r).1.av:=by
 have h1:=revise_sat 3 r hr
 generalize Rd.revise 3 r=x at*
 refine uFN Tryz.func83 Tryz.ntmps83 ?_;intro w e X hC
 repeat refine uA ?_
 refine uR ?_;intro K hK
 refine callL rfl (h1) uTS uTS uTS uTS uTS ?_;refine uS ?_
 refine uH ?_
 refine hK _ ?_;clear hK K
 refine awp_ret ?_;rw[show Tryz.f83.results.toList=[.cell 2 30] from rfl];(refine(retBs uRG rfl uTC uTC ?_ ?_);all_goals (first|refine uSC ?_|exact uXC|skip))
theorem cancel_sat (r:Scr.Rd) (hr:RdOk r):SatG Tryz.prog tab 84 (rdB r) [.ptO 0 0 0 0 0] (rdB (Rd.revise 4 r).2) (Rd.revise 4 r).1.av:=by
 have h1:=revise_sat 4 r hr
 generalize Rd.revise 4 r=x at*
 refine uFN Tryz.func84 Tryz.ntmps84 ?_;intro w e X hC
 repeat refine uA ?_
 refine uR ?_;intro K hK
 refine callL rfl (h1) uTS uTS uTS uTS uTS ?_;refine uS ?_
 refine uH ?_
 refine hK _ ?_;clear hK K
 refine awp_ret ?_;rw[show Tryz.f84.results.toList=[.cell 2 30] from rfl];(refine(retBs uRG rfl uTC uTC ?_ ?_);all_goals (first|refine uSC ?_|exact uXC|skip))
theorem restore_sat (r:Scr.Rd) (hr:RdOk r):SatG Tryz.prog tab 85 (rdB r) [.ptO 0 0 0 0 0] (rdB (Rd.revise 5 r).2) (Rd.revise 5 r).1.av:=by
 have h1:=revise_sat 5 r hr
 generalize Rd.revise 5 r=x at*
 refine uFN Tryz.func85 Tryz.ntmps85 ?_;intro w e X hC
 repeat refine uA ?_
 refine uR ?_;intro K hK
 refine callL rfl (h1) uTS uTS uTS uTS uTS ?_;refine uS ?_
 refine uH ?_
 refine hK _ ?_;clear hK K
 refine awp_ret ?_;rw[show Tryz.f85.results.toList=[.cell 2 30] from rfl];(refine(retBs uRG rfl uTC uTC ?_ ?_);all_goals (first|refine uSC ?_|exact uXC|skip))
theorem broken_sat (r:Scr.Rd) (hr:RdOk r):SatG Tryz.prog tab 86 (rdB r) [.ptO 0 0 0 0 0] (rdB (Rd.act1 6 r).2) (Rd.act1 6 r).1.av:=by
 have h1:=number_sat r hr
 unfold Rd.act1
 generalize r.number=x at*
 refine uFN Tryz.func86 Tryz.ntmps86 ?_;intro w e X hC
 repeat refine uA ?_
 refine uR ?_;intro K hK
 refine callL rfl (h1) uTS uTS uTS uTS uTS ?_;refine uS ?_
 refine uH ?_
 refine hK _ ?_;clear hK K
 refine awp_ret ?_;rw[show Tryz.f86.results.toList=[.cell 2 30] from rfl];(refine(retBs uRG rfl uTC uTC ?_ ?_);all_goals (first|refine uSC ?_|exact uXC|skip))
 ·rfl
theorem repair_sat (r:Scr.Rd) (hr:RdOk r):SatG Tryz.prog tab 87 (rdB r) [.ptO 0 0 0 0 0] (rdB (Rd.act1 7 r).2) (Rd.act1 7 r).1.av:=by
 have h1:=number_sat r hr
 unfold Rd.act1
 generalize r.number=x at*
 refine uFN Tryz.func87 Tryz.ntmps87 ?_;intro w e X hC
 repeat refine uA ?_
 refine uR ?_;intro K hK
 refine callL rfl (h1) uTS uTS uTS uTS uTS ?_;refine uS ?_
 refine uH ?_
 refine hK _ ?_;clear hK K
 refine awp_ret ?_;rw[show Tryz.f87.results.toList=[.cell 2 30] from rfl];(refine(retBs uRG rfl uTC uTC ?_ ?_);all_goals (first|refine uSC ?_|exact uXC|skip))
 ·rfl
theorem offline_sat (r:Scr.Rd) (hr:RdOk r):SatG Tryz.prog tab 91 (rdB r) [.ptO 0 0 0 0 0] (rdB (Rd.act2 11 r).2) (Rd.act2 11 r).1.av:=by
 have h1:=number_sat r hr
 unfold Rd.act2
 generalize r.number=x at*
 refine uFN Tryz.func91 Tryz.ntmps91 ?_;intro w e X hC
 repeat refine uA ?_
 refine uR ?_;intro K hK
 refine callL rfl (h1) uTS uTS uTS uTS uTS ?_;refine uS ?_
 refine uH ?_
 refine hK _ ?_;clear hK K
 refine awp_ret ?_;rw[show Tryz.f91.results.toList=[.cell 2 30] from rfl];(refine(retBs uRG rfl uTC uTC ?_ ?_);all_goals (first|refine uSC ?_|exact uXC|skip))
 ·rfl
theorem online_sat (r:Scr.Rd) (hr:RdOk r):SatG Tryz.prog tab 92 (rdB r) [.ptO 0 0 0 0 0] (rdB (Rd.act2 12 r).2) (Rd.act2 12 r).1.av:=by
 have h1:=number_sat r hr
 unfold Rd.act2
 generalize r.number=x at*
 refine uFN Tryz.func92 Tryz.ntmps92 ?_;intro w e X hC
 repeat refine uA ?_
 refine uR ?_;intro K hK
 refine callL rfl (h1) uTS uTS uTS uTS uTS ?_;refine uS ?_
 refine uH ?_
 refine hK _ ?_;clear hK K
 refine awp_ret ?_;rw[show Tryz.f92.results.toList=[.cell 2 30] from rfl];(refine(retBs uRG rfl uTC uTC ?_ ?_);all_goals (first|refine uSC ?_|exact uXC|skip))
 ·rfl
theorem depart_sat (r:Scr.Rd) (hr:RdOk r):SatG Tryz.prog tab 93 (rdB r) [.ptO 0 0 0 0 0] (rdB r.depart.2) r.depart.1.av:=by
 have h1:=flight_sat r hr
 unfold Rd.depart
 generalize r.flight=x at*
 refine uFN Tryz.func93 Tryz.ntmps93 ?_;intro w e X hC
 repeat refine uA ?_
 refine uR ?_;intro K hK
 refine callL rfl (h1) uTS uTS uTS uTS uTS ?_;refine uS ?_
 refine uH ?_
 refine hK _ ?_;clear hK K
 refine awp_ret ?_;rw[show Tryz.f93.results.toList=[.cell 2 30] from rfl];(refine(retBs uRG rfl uTC uTC ?_ ?_);all_goals (first|refine uSC ?_|exact uXC|skip))
 ·rfl
theorem crash_sat (r:Scr.Rd):SatG Tryz.prog tab 94 (rdB r) [.ptO 0 0 0 0 0] (rdB r.crash.2) r.crash.1.av:=by
 refine uFN Tryz.func94 Tryz.ntmps94 ?_;intro w e X hC
 repeat refine uA ?_
 refine awp_ret ?_;rw[show Tryz.f94.results.toList=[.cell 2 30] from rfl];(refine(retBs uRG rfl uTC uTC ?_ ?_);all_goals (first|refine uSC ?_|exact uXC|skip))
 ·rfl
 ·rfl
theorem induct_sat (r:Scr.Rd) (hr:RdOk r):SatG Tryz.prog tab 78 (rdB r) [.ptO 0 0 0 0 0] (rdB (Rd.act3 2 r).2) (Rd.act3 2 r).1.av:=by
 have h1:=plate_sat r hr
 have h2:=number_sat r.plate.2 hr.plate
 unfold Rd.act3
 generalize r.plate=x at*
 generalize x.2.number=y at*
 refine uFN Tryz.func78 Tryz.ntmps78 ?_;intro w e X hC
 repeat refine uA ?_
 refine uR ?_;intro K hK
 refine uH ?_
 refine callL rfl (h1) uTS uTS uTS uTS uTS ?_;refine uS ?_
 refine callL rfl (h2) uTS uTS uTS uTS uTS ?_;refine uS ?_
 refine uH ?_
 refine hK _ ?_;clear hK K
 refine awp_ret ?_;rw[show Tryz.f78.results.toList=[.cell 2 30] from rfl];(refine(retBs uRG rfl uTC uTC ?_ ?_);all_goals (first|refine uSC ?_|exact uXC|skip))
 ·rfl
theorem pick_sat (r:Scr.Rd) (hr:RdOk r):SatG Tryz.prog tab 90 (rdB r) [.ptO 0 0 0 0 0] (rdB (Rd.act3 10 r).2) (Rd.act3 10 r).1.av:=by
 have h1:=plate_sat r hr
 have h2:=number_sat r.plate.2 hr.plate
 unfold Rd.act3
 generalize r.plate=x at*
 generalize x.2.number=y at*
 refine uFN Tryz.func90 Tryz.ntmps90 ?_;intro w e X hC
 repeat refine uA ?_
 refine uR ?_;intro K hK
 refine uH ?_
 refine callL rfl (h1) uTS uTS uTS uTS uTS ?_;refine uS ?_
 refine callL rfl (h2) uTS uTS uTS uTS uTS ?_;refine uS ?_
 refine uH ?_
 refine hK _ ?_;clear hK K
 refine awp_ret ?_;rw[show Tryz.f90.results.toList=[.cell 2 30] from rfl];(refine(retBs uRG rfl uTC uTC ?_ ?_);all_goals (first|refine uSC ?_|exact uXC|skip))
 ·rfl
theorem load_sat (r:Scr.Rd) (hr:RdOk r):SatG Tryz.prog tab 88 (rdB r) [.ptO 0 0 0 0 0] (rdB r.load.2) r.load.1.av:=by
 have h1:=number_sat r hr
 have h2:=plate_sat r.number.2 hr.number
 have h3:=number_sat r.number.2.plate.2 hr.number.plate
 have h4:=number_sat r.number.2.plate.2.number.2 hr.number.plate.number
 unfold Rd.load
 generalize r.number=x at*
 generalize x.2.plate=y at*
 generalize y.2.number=z at*
 generalize z.2.number=u at*
 refine uFN Tryz.func88 Tryz.ntmps88 ?_;intro w e X hC
 repeat refine uA ?_
 refine uR ?_;intro K hK
 refine uH ?_
 refine callL rfl (h1) uTS uTS uTS uTS uTS ?_;refine uS ?_
 refine callL rfl (h2) uTS uTS uTS uTS uTS ?_;refine uS ?_
 refine callL rfl (h3) uTS uTS uTS uTS uTS ?_;refine uS ?_
 refine callL rfl (h4) uTS uTS uTS uTS uTS ?_;refine uS ?_
 refine uH ?_
 refine hK _ ?_;clear hK K
 refine awp_ret ?_;rw[show Tryz.f88.results.toList=[.cell 2 30] from rfl];(refine(retBs uRG rfl uTC uTC ?_ ?_);all_goals (first|refine uSC ?_|exact uXC|skip))
 ·rfl
theorem unload_sat (r:Scr.Rd) (hr:RdOk r):SatG Tryz.prog tab 89 (rdB r) [.ptO 0 0 0 0 0] (rdB r.unload.2) r.unload.1.av:=by
 have h1:=number_sat r hr
 have h2:=plate_sat r.number.2 hr.number
 have h3:=number_sat r.number.2.plate.2 hr.number.plate
 unfold Rd.unload
 generalize r.number=x at*
 generalize x.2.plate=y at*
 generalize y.2.number=z at*
 refine uFN Tryz.func89 Tryz.ntmps89 ?_;intro w e X hC
 repeat refine uA ?_
 refine uR ?_;intro K hK
 refine uH ?_
 refine callL rfl (h1) uTS uTS uTS uTS uTS ?_;refine uS ?_
 refine callL rfl (h2) uTS uTS uTS uTS uTS ?_;refine uS ?_
 refine callL rfl (h3) uTS uTS uTS uTS uTS ?_;refine uS ?_
 refine uH ?_
 refine hK _ ?_;clear hK K
 refine awp_ret ?_;rw[show Tryz.f89.results.toList=[.cell 2 30] from rfl];(refine(retBs uRG rfl uTC uTC ?_ ?_);all_goals (first|refine uSC ?_|exact uXC|skip))
 ·rfl
open Go.Scr
def kindM:List (ByteArray×AV):=[(strOf (sTick), .bfn 77 [.ptO 0 0 0 0 0]),(strOf (sInduct), .bfn 78 [.ptO 0 0 0 0 0]),(strOf (sMessage), .bfn 79 [.ptO 0 0 0 0 0]),(strOf (sVerdict), .bfn 80 [.ptO 0 0 0 0 0]),(strOf (revN 1), .bfn 81 [.ptO 0 0 0 0 0]),(strOf (revN 2), .bfn 82 [.ptO 0 0 0 0 0]),(strOf (revN 3), .bfn 83 [.ptO 0 0 0 0 0]),(strOf (revN 4), .bfn 84 [.ptO 0 0 0 0 0]),(strOf (revN 5), .bfn 85 [.ptO 0 0 0 0 0]),(strOf (sBreak), .bfn 86 [.ptO 0 0 0 0 0]),(strOf (sRepair), .bfn 87 [.ptO 0 0 0 0 0]),(strOf (sLoad), .bfn 88 [.ptO 0 0 0 0 0]),(strOf (sUnload), .bfn 89 [.ptO 0 0 0 0 0]),(strOf (sPick), .bfn 90 [.ptO 0 0 0 0 0]),(strOf (sOffline), .bfn 91 [.ptO 0 0 0 0 0]),(strOf (sOnline), .bfn 92 [.ptO 0 0 0 0 0]),(strOf (sDepart), .bfn 93 [.ptO 0 0 0 0 0]),(strOf (sCrash), .bfn 94 [.ptO 0 0 0 0 0])]
theorem ract_some (r:Scr.Rd) (x:Bs×Scr.Rd) (f:Nat) (y:Acx×Scr.Rd) (h1:SatG Tryz.prog tab 95 (rdB r) [.ptO 0 0 0 0 0] (rdB x.2) (S (strOf x.1))) (hs:shas x.1 kindM=true) (hg:sget x.1 (.lit .nilFunc) kindM= .bfn f [.ptO 0 0 0 0 0])
  (h2:SatG Tryz.prog tab f (rdB x.2) [.ptO 0 0 0 0 0] (rdB y.2) y.1.av):SatG Tryz.prog tab 44 (rdB r) [.ptO 0 0 0 0 0] (rdB y.2) y.1.av:=by
 refine uFN Tryz.func44 Tryz.ntmps44 ?_;intro w e X hC
 repeat refine uA ?_
 refine awp_weak (s':=⟨[(0, .ptO 0 0 0 0 0),(2, .ptO 102 1 0 0 0),(3, .mpO 106 2)],(106,some (2, .ms kindM))::(102,some (1, .box [I 0, .sl [] true, .sl [] true,B false,I 0,I 0,I 0,I 0,I 0,B false, .lit (.string .empty),I 0,I 0, .lit (.string .empty),I 0, .lit (.string .empty),I 0,I 0,I 0, .lit (.string .empty),I 0, .lit (.string .empty),I 0]))::rdB r,_⟩) (uKF) ?_
 refine uR ?_;intro K hK
 refine uH ?_
 refine callL rfl (h1) uTS uTS uTS uTS uTS ?_;refine uS ?_
 first|refine uS1 (uI @hs @hg) ?_|exact uX1 (uI @hs @hg)
 refine uH ?_
 refine hK _ ?_;clear hK K
 repeat refine uA ?_
 refine uF ?_
 refine uR ?_;intro K hK
 refine uH ?_
 refine callL rfl (h2) uTS uTS uTS uTS uTS ?_;refine uS ?_
 refine uH ?_
 refine hK _ ?_;clear hK K
 refine awp_ret ?_;rw[show Tryz.f44.results.toList=[.cell 2 30] from rfl];(refine(retBs uRG rfl uTC uTC ?_ ?_);all_goals (first|refine uSC ?_|exact uXC|skip))
theorem ract_none (r:Scr.Rd) (x:Bs×Scr.Rd) (h1:SatG Tryz.prog tab 95 (rdB r) [.ptO 0 0 0 0 0] (rdB x.2) (S (strOf x.1))) (hs:shas x.1 kindM=false):SatG Tryz.prog tab 44 (rdB r) [.ptO 0 0 0 0 0] (rdB ⟨x.2.line,x.2.ws,true⟩) (A0 0).av:=by
 refine uFN Tryz.func44 Tryz.ntmps44 ?_;intro w e X hC
 repeat refine uA ?_
 refine awp_weak (s':=⟨[(0, .ptO 0 0 0 0 0),(2, .ptO 102 1 0 0 0),(3, .mpO 106 2)],(106,some (2, .ms kindM))::(102,some (1, .box [I 0, .sl [] true, .sl [] true,B false,I 0,I 0,I 0,I 0,I 0,B false, .lit (.string .empty),I 0,I 0, .lit (.string .empty),I 0, .lit (.string .empty),I 0,I 0,I 0, .lit (.string .empty),I 0, .lit (.string .empty),I 0]))::rdB r,_⟩) (uKF) ?_
 generalize hg:sget x.1 (.lit .nilFunc) kindM=v
 refine uR ?_;intro K hK
 refine uH ?_
 refine callL rfl (h1) uTS uTS uTS uTS uTS ?_;refine uS ?_
 first|refine uS1 @hs ?_|exact uX1 @hs
 refine uH ?_
 refine hK _ ?_;clear hK K
 repeat refine uA ?_
 refine uT ?_
 repeat refine uA ?_
 refine awp_ret ?_;rw[show Tryz.f44.results.toList=[.cell 2 30] from rfl];(refine(retBs uRG rfl uTC uTC ?_ ?_);all_goals (first|refine uSC ?_|exact uXC|skip))
 ·rfl
theorem ract_sat (r:Scr.Rd) (hr:RdOk r) (hn:r.ws.length<=1000) (hl:r.line.length<=1000000):SatG Tryz.prog tab 44 (rdB r) [.ptO 0 0 0 0 0] (rdB r.act.2) r.act.1.av:=by
 have h1:=next_sat r hr.n
 unfold Rd.act
 by_cases n0:r.next.1=sTick
 ·rw[if_pos n0]
  exact ract_some r r.next 77 (r.next.2.tick) h1 (by rw[n0];rfl) (by rw[n0];rfl) (tick_sat r.next.2 hr.next.1 (Nat.le_trans (next_len r) hn))
 rw[if_neg n0]
 by_cases n1:r.next.1=sInduct
 ·rw[if_pos n1]
  exact ract_some r r.next 78 (Rd.act3 2 r.next.2) h1 (by rw[n1];rfl) (by rw[n1];rfl) (induct_sat r.next.2 hr.next.1)
 rw[if_neg n1]
 by_cases n2:r.next.1=sMessage
 ·rw[if_pos n2]
  exact ract_some r r.next 79 (r.next.2.message) h1 (by rw[n2];rfl) (by rw[n2];rfl) (message_sat r.next.2 (by rw[next_line];exact hl))
 rw[if_neg n2]
 by_cases n3:r.next.1=sVerdict
 ·rw[if_pos n3]
  exact ract_some r r.next 80 (r.next.2.verdict) h1 (by rw[n3];rfl) (by rw[n3];rfl) (verdict_sat r.next.2 hr.next.1)
 rw[if_neg n3]
 by_cases n4:r.next.1=revN 1
 ·rw[if_pos n4]
  exact ract_some r r.next 81 (Rd.revise 1 r.next.2) h1 (by rw[n4];rfl) (by rw[n4];rfl) (delay_sat r.next.2 hr.next.1)
 rw[if_neg n4]
 by_cases n5:r.next.1=revN 2
 ·rw[if_pos n5]
  exact ract_some r r.next 82 (Rd.revise 2 r.next.2) h1 (by rw[n5];rfl) (by rw[n5];rfl) (opens_sat r.next.2 hr.next.1)
 rw[if_neg n5]
 by_cases n6:r.next.1=revN 3
 ·rw[if_pos n6]
  exact ract_some r r.next 83 (Rd.revise 3 r.next.2) h1 (by rw[n6];rfl) (by rw[n6];rfl) (stand_sat r.next.2 hr.next.1)
 rw[if_neg n6]
 by_cases n7:r.next.1=revN 4
 ·rw[if_pos n7]
  exact ract_some r r.next 84 (Rd.revise 4 r.next.2) h1 (by rw[n7];rfl) (by rw[n7];rfl) (cancel_sat r.next.2 hr.next.1)
 rw[if_neg n7]
 by_cases n8:r.next.1=revN 5
 ·rw[if_pos n8]
  exact ract_some r r.next 85 (Rd.revise 5 r.next.2) h1 (by rw[n8];rfl) (by rw[n8];rfl) (restore_sat r.next.2 hr.next.1)
 rw[if_neg n8]
 by_cases n9:r.next.1=sBreak
 ·rw[if_pos n9]
  exact ract_some r r.next 86 (Rd.act1 6 r.next.2) h1 (by rw[n9];rfl) (by rw[n9];rfl) (broken_sat r.next.2 hr.next.1)
 rw[if_neg n9]
 by_cases n10:r.next.1=sRepair
 ·rw[if_pos n10]
  exact ract_some r r.next 87 (Rd.act1 7 r.next.2) h1 (by rw[n10];rfl) (by rw[n10];rfl) (repair_sat r.next.2 hr.next.1)
 rw[if_neg n10]
 by_cases n11:r.next.1=sLoad
 ·rw[if_pos n11]
  exact ract_some r r.next 88 (r.next.2.load) h1 (by rw[n11];rfl) (by rw[n11];rfl) (load_sat r.next.2 hr.next.1)
 rw[if_neg n11]
 by_cases n12:r.next.1=sUnload
 ·rw[if_pos n12]
  exact ract_some r r.next 89 (r.next.2.unload) h1 (by rw[n12];rfl) (by rw[n12];rfl) (unload_sat r.next.2 hr.next.1)
 rw[if_neg n12]
 by_cases n13:r.next.1=sPick
 ·rw[if_pos n13]
  exact ract_some r r.next 90 (Rd.act3 10 r.next.2) h1 (by rw[n13];rfl) (by rw[n13];rfl) (pick_sat r.next.2 hr.next.1)
 rw[if_neg n13]
 by_cases n14:r.next.1=sOffline
 ·rw[if_pos n14]
  exact ract_some r r.next 91 (Rd.act2 11 r.next.2) h1 (by rw[n14];rfl) (by rw[n14];rfl) (offline_sat r.next.2 hr.next.1)
 rw[if_neg n14]
 by_cases n15:r.next.1=sOnline
 ·rw[if_pos n15]
  exact ract_some r r.next 92 (Rd.act2 12 r.next.2) h1 (by rw[n15];rfl) (by rw[n15];rfl) (online_sat r.next.2 hr.next.1)
 rw[if_neg n15]
 by_cases n16:r.next.1=sDepart
 ·rw[if_pos n16]
  exact ract_some r r.next 93 (r.next.2.depart) h1 (by rw[n16];rfl) (by rw[n16];rfl) (depart_sat r.next.2 hr.next.1)
 rw[if_neg n16]
 by_cases n17:r.next.1=sCrash
 ·rw[if_pos n17]
  exact ract_some r r.next 94 (r.next.2.crash) h1 (by rw[n17];rfl) (by rw[n17];rfl) (crash_sat r.next.2)
 rw[if_neg n17]
 refine ract_none r r.next h1 ?_
 generalize r.next.1=k at*
 have e:∀s:Bs,¬k=s->decide ((strOf s).data.toList=k)=false:=fun s h=>decide_eq_false (fun h2=>h (by rw[<-h2,str_list]))
 simp only[kindM,shas,e _ n0,e _ n1,e _ n2,e _ n3,e _ n4,e _ n5,e _ n6,e _ n7,e _ n8,e _ n9,e _ n10,e _ n11,e _ n12,e _ n13,e _ n14,e _ n15,e _ n16,e _ n17,Bool.or_false]
open Go.Scr
theorem ract_by {p:Acx×Scr.Rd->Prop} {r:Scr.Rd} (a0:p (r.next.2.tick)) (a1:p (Rd.act3 2 r.next.2)) (a2:p (r.next.2.message)) (a3:p (r.next.2.verdict)) (a4:p (Rd.revise 1 r.next.2)) (a5:p (Rd.revise 2 r.next.2)) (a6:p (Rd.revise 3 r.next.2)) (a7:p (Rd.revise 4 r.next.2)) (a8:p (Rd.revise 5 r.next.2)) (a9:p (Rd.act1 6 r.next.2)) (a10:p (Rd.act1 7 r.next.2)) (a11:p (r.next.2.load)) (a12:p (r.next.2.unload)) (a13:p (Rd.act3 10 r.next.2)) (a14:p (Rd.act2 11 r.next.2)) (a15:p (Rd.act2 12 r.next.2)) (a16:p (r.next.2.depart)) (a17:p (r.next.2.crash)) (a18:p (A0 0,⟨r.next.2.line,r.next.2.ws,true⟩)):p r.act:=by
 unfold Rd.act
 by_cases h0:r.next.1=sTick
 ·rw[if_pos h0];exact a0
 rw[if_neg h0]
 by_cases h1:r.next.1=sInduct
 ·rw[if_pos h1];exact a1
 rw[if_neg h1]
 by_cases h2:r.next.1=sMessage
 ·rw[if_pos h2];exact a2
 rw[if_neg h2]
 by_cases h3:r.next.1=sVerdict
 ·rw[if_pos h3];exact a3
 rw[if_neg h3]
 by_cases h4:r.next.1=revN 1
 ·rw[if_pos h4];exact a4
 rw[if_neg h4]
 by_cases h5:r.next.1=revN 2
 ·rw[if_pos h5];exact a5
 rw[if_neg h5]
 by_cases h6:r.next.1=revN 3
 ·rw[if_pos h6];exact a6
 rw[if_neg h6]
 by_cases h7:r.next.1=revN 4
 ·rw[if_pos h7];exact a7
 rw[if_neg h7]
 by_cases h8:r.next.1=revN 5
 ·rw[if_pos h8];exact a8
 rw[if_neg h8]
 by_cases h9:r.next.1=sBreak
 ·rw[if_pos h9];exact a9
 rw[if_neg h9]
 by_cases h10:r.next.1=sRepair
 ·rw[if_pos h10];exact a10
 rw[if_neg h10]
 by_cases h11:r.next.1=sLoad
 ·rw[if_pos h11];exact a11
 rw[if_neg h11]
 by_cases h12:r.next.1=sUnload
 ·rw[if_pos h12];exact a12
 rw[if_neg h12]
 by_cases h13:r.next.1=sPick
 ·rw[if_pos h13];exact a13
 rw[if_neg h13]
 by_cases h14:r.next.1=sOffline
 ·rw[if_pos h14];exact a14
 rw[if_neg h14]
 by_cases h15:r.next.1=sOnline
 ·rw[if_pos h15];exact a15
 rw[if_neg h15]
 by_cases h16:r.next.1=sDepart
 ·rw[if_pos h16];exact a16
 rw[if_neg h16]
 by_cases h17:r.next.1=sCrash
 ·rw[if_pos h17];exact a17
 rw[if_neg h17]
 exact a18
theorem fltParse_len (s:Bs):(fltParse s).1.car.length<=10/\(fltParse s).1.suf.length<=10:=by
 unfold fltParse
 cases h:fltShape s with
 |false=>exact⟨Nat.zero_le _,Nat.zero_le _⟩
 |true=>
  have hs:s.length=9\/s.length=10:=by
   unfold fltShape at h
   simp only[Bool.and_eq_true,decide_eq_true_eq] at h
   exact h.1.1.1.1.1
  rw[if_pos rfl]
  split
  ·exact⟨Nat.zero_le _,Nat.zero_le _⟩
  ·refine⟨?_,?_⟩
   ·show(s.take 2).length<=10
    rw[List.length_take];omega
   ·show((s.take (s.length - 3)).drop 6).length<=10
    rw[List.length_drop,List.length_take];omega
theorem faults_len:∀(n:Nat) (r:Scr.Rd) (m g:List Flaw),(Rd.faults n r m g).1.length<=m.length+n/\(Rd.faults n r m g).2.1.length<=g.length+n
 |0,r,m,g=>⟨Nat.le_refl _,Nat.le_refl _⟩
 |n+1,r,m,g=>by
  rw[Rd.faults]
  split
  ·split
   ·have:=faults_len n (r.next.2.fault r.next.1).2 (m++[(r.next.2.fault r.next.1).1]) g
    rw[List.length_append,List.length_singleton] at this
    omega
   ·have:=faults_len n (r.next.2.fault r.next.1).2 m (g++[(r.next.2.fault r.next.1).1])
    rw[List.length_append,List.length_singleton] at this
    omega
  ·simp only;omega
theorem SmA.zero {k:Int}:SmA (A0 k):=⟨Nat.zero_le _,Nat.zero_le _,Nat.zero_le _,Nat.zero_le _,Nat.zero_le _,Nat.zero_le _,Nat.zero_le _⟩
theorem tick_sm {r:Scr.Rd} (hn:r.ws.length<=1000):SmA r.tick.1:=by
 unfold Rd.tick
 split
 ·have:=faults_len r.ws.length r.next.2 [] []
  simp only[List.length_nil,Nat.zero_add] at this
  exact⟨Nat.le_trans this.1 hn,Nat.le_trans this.2 hn,Nat.zero_le _,Nat.zero_le _,Nat.zero_le _,Nat.zero_le _,Nat.zero_le _⟩
 ·have:=faults_len r.ws.length r [] []
  simp only[List.length_nil,Nat.zero_add] at this
  exact⟨Nat.le_trans this.1 hn,Nat.le_trans this.2 hn,Nat.zero_le _,Nat.zero_le _,Nat.zero_le _,Nat.zero_le _,Nat.zero_le _⟩
theorem message_sm {r:Scr.Rd} (hl:r.line.length<=1000000):SmA r.message.1:=by
 have:=cut_len r.line 32
 exact⟨Nat.zero_le _,Nat.zero_le _,by show(swapB 124 10 (Lib.cut r.line [32]).2.1).length<=_;rw[swapB_length];omega,Nat.zero_le _,Nat.zero_le _,Nat.zero_le _,Nat.zero_le _⟩
theorem flight_len (r:Scr.Rd):r.flight.1.car.length<=1000000/\r.flight.1.suf.length<=1000000:=by
 have:=fltParse_len r.next.1
 exact⟨Nat.le_trans this.1 (by decide),Nat.le_trans this.2 (by decide)⟩
theorem revise_sm {k:Int} {r:Scr.Rd}:SmA (Rd.revise k r).1:=by
 have:=flight_len r
 unfold Rd.revise
 split
 ·exact⟨Nat.zero_le _,Nat.zero_le _,Nat.zero_le _,this.1,this.2,Nat.zero_le _,Nat.zero_le _⟩
 ·exact⟨Nat.zero_le _,Nat.zero_le _,Nat.zero_le _,this.1,this.2,Nat.zero_le _,Nat.zero_le _⟩
theorem depart_sm {r:Scr.Rd}:SmA r.depart.1:=by
 have:=flight_len r
 exact⟨Nat.zero_le _,Nat.zero_le _,Nat.zero_le _,Nat.zero_le _,Nat.zero_le _,this.1,this.2⟩
theorem act_sm {r:Scr.Rd} (hn:r.ws.length<=1000) (hl:r.line.length<=1000000):SmA r.act.1:=by
 have z:∀{k:Int} {p:Plt} {a b c d:Int} {e:Bool},SmA {A0 k with plt:=p,node:=a,img:=b,dev:=c,con:=d,clr:=e}:=⟨Nat.zero_le _,Nat.zero_le _,Nat.zero_le _,Nat.zero_le _,Nat.zero_le _,Nat.zero_le _,Nat.zero_le _⟩
 refine ract_by (p:=fun y=>SmA y.1) (tick_sm (Nat.le_trans (next_len r) hn)) z (message_sm (by rw[next_line];exact hl)) z revise_sm revise_sm revise_sm revise_sm revise_sm z z z z z z z depart_sm z z
abbrev parseV (o:Option Acx):AV:= .tup [(o.getD (A0 0)).av,I (if o.isSome then 0 else 3)]
theorem parseline_sat (s:Bs) (hs:s.length<=1000000) (hc:s.count 32<=999):SatG Tryz.prog tab 16 [] [S (strOf s)] [] (parseV (parseS s)):=by
 have hlen:(rd0 s).ws.length<=1000:=by
  show(splitL 32 s).length<=1000
  rw[splitL_length];omega
 have hok:RdOk (rd0 s):=⟨by omega,fun w hw=>Nat.le_trans (splitL_len 32 s w hw) hs⟩
 have h1:=splitS_sat 32 s hs
 have h2:=ract_sat (rd0 s) hok hlen hs
 have h3:=line_sat (rd0 s).act.1 (act_sm hlen hs)
 have hno:¬((rd0 s).act.2.bad=false/\(rd0 s).act.2.ws=[]/\lineS (rd0 s).act.1=some s)->parseS s=none:=fun h=>by unfold parseS;rw[if_neg h]
 have hyes:(rd0 s).act.2.bad=false/\(rd0 s).act.2.ws=[]/\lineS (rd0 s).act.1=some s->parseS s=some (rd0 s).act.1:=fun h=>by unfold parseS;rw[if_pos h]
 generalize (rd0 s).act=y at*
 obtain⟨x,li,ws,bad⟩:=y
 simp only at h3 hno hyes
 refine uFN Tryz.func16 Tryz.ntmps16 ?_;intro w e X hC
 repeat refine uA ?_
 refine uR ?_;intro K hK
 refine uH ?_
 refine callE [] [(110,5,100,1)] false (h1) uTR uTR uTE uTE uTE uTE uTE uTE uTE uTE uTE uTE uTE uTE uTE uTE uTE ?_;refine uQS ?_
 refine uH ?_
 refine hK _ ?_;clear hK K
 refine awp_weak (s':=⟨[(0,S (strOf s)),(2, .ptO 102 1 0 0 0),(3,I 0),(4, .ptO 112 7 0 0 0)],(112,some (7, .box [S (strOf s), .sl (strs (splitL 32 s)) false,B false]))::(102,some (1, .box [I 0, .sl [] true, .sl [] true,B false,I 0,I 0,I 0,I 0,I 0,B false, .lit (.string .empty),I 0,I 0, .lit (.string .empty),I 0, .lit (.string .empty),I 0,I 0,I 0, .lit (.string .empty),I 0, .lit (.string .empty),I 0]))::[],_⟩) (uKF) ?_
 refine uR ?_;intro K hK
 refine uH ?_
 refine callL rfl (h2) uTS uTS uTS uTS uTS ?_;refine uS ?_
 refine uH ?_
 refine hK _ ?_;clear hK K
 cases bad with
 |true=>
  rw[hno (fun h=>by cases h.1)]
  repeat refine uA ?_
  refine uT ?_
  repeat refine uA ?_
  refine awp_ret ?_;rw[show Tryz.f16.results.toList=[.cell 2 30, .tmp 3] from rfl];first|refine uRN ?_|exact uRM
  rfl
 |false=>
  cases ws with
  |cons a ws=>
   rw[hno (fun h=>by cases h.2.1)]
   have e1:=uDt (0<((ws.length+1:Nat):Int))
   repeat refine uA1 @e1 ?_
   refine uT ?_
   repeat refine uA ?_
   refine awp_ret ?_;rw[show Tryz.f16.results.toList=[.cell 2 30, .tmp 3] from rfl];first|refine uRN ?_|exact uRM
   rfl
  |nil=>
   have e1:decide (0<((0:Nat):Int))=false:=decide_eq_false (by decide)
   repeat refine uA1 @e1 ?_
   refine uF ?_
   cases hln:lineS x with
   |none=>
    rw[hno (fun h=>by rw[hln] at h;cases h.2.2)]
    rw[hln] at h3
    replace h3:SatG Tryz.prog tab 12 [] [x.av] [] (.tup [S (strOf []),I 3]):=h3
    refine uR ?_;intro K hK
    refine uH ?_
    refine callF uTS (h3) uTS uTS uTS ?_;refine uS ?_
    refine hK _ ?_;clear hK K
    repeat refine uA ?_
    refine uT ?_
    repeat refine uA ?_
    refine awp_ret ?_;rw[show Tryz.f16.results.toList=[.cell 2 30, .tmp 3] from rfl];first|refine uRN ?_|exact uRM
    rfl
   |some t=>
    rw[hln] at h3
    replace h3:SatG Tryz.prog tab 12 [] [x.av] [] (.tup [S (strOf t),I 0]):=h3
    by_cases ht:t=s
    ·rw[hyes ⟨rfl,rfl,by rw[hln,ht]⟩]
     have e2:decide (t=s)=true:=decide_eq_true ht
     have e3:(decide ¬t=s)=false:=decide_eq_false (fun h=>h ht)
     refine uR ?_;intro K hK
     refine uH ?_
     refine callF uTS (h3) uTS uTS uTS ?_;refine uS ?_
     refine hK _ ?_;clear hK K
     repeat refine uA1 (uI @e2 @e3) ?_
     refine uF ?_
     repeat refine uA ?_
     refine awp_ret ?_;rw[show Tryz.f16.results.toList=[.cell 2 30, .tmp 3] from rfl];first|refine uRN ?_|exact uRM
     rfl
    ·rw[hno (fun h=>ht (by rw[hln] at h;exact Option.some.inj h.2.2))]
     have e2:decide (t=s)=false:=decide_eq_false ht
     have e3:(decide ¬t=s)=true:=decide_eq_true ht
     refine uR ?_;intro K hK
     refine uH ?_
     refine callF uTS (h3) uTS uTS uTS ?_;refine uS ?_
     refine hK _ ?_;clear hK K
     repeat refine uA1 (uI @e2 @e3) ?_
     refine uT ?_
     repeat refine uA ?_
     refine awp_ret ?_;rw[show Tryz.f16.results.toList=[.cell 2 30, .tmp 3] from rfl];first|refine uRN ?_|exact uRM
     rfl
end Go.Proofs.YtokkbonoplbiaaaGreatDoor
namespace Go.Scr
open Go Go.Lib
theorem swap_back2 {s:Bs} (h:(124:UInt8)∉s):swapB 124 10 (swapB 10 124 s)=s:=by
 unfold swapB
 rw[List.map_map]
 conv=>rhs;rw[<-List.map_id s]
 refine List.map_congr_left fun x hx=>?_
 simp only[Function.comp_apply,id_eq]
 have hx':x≠124:=fun e=>h (by rw[<-e];exact hx)
 by_cases h1:x=10
 ·rw[if_pos h1,if_pos rfl,h1]
 ·rw[if_neg h1,if_neg hx']
def msgA (t:Bs):Acx:={A0 3 with txt:=t}
theorem only_msg (t:Bs):only (msgA t)=msgA t:=rfl
theorem line_msg {t:Bs} (h:txtB t=true):lineS (msgA t)=some (sMessage++32::swapB 10 124 t):=by
 have hw:wAct ([],false) (msgA t)=([sMessage,swapB 10 124 t],false):=by
  show wMsg (wWord ([],false) sMessage) t=_
  unfold wMsg wWord
  rw[h];rfl
 unfold lineS
 rw[hw,if_pos ⟨by show(1:Int)<=3;decide,by show(3:Int)<=14;decide,(only_msg t).symm,rfl⟩,join_cons2 32 sMessage (by simp),join_one]
theorem msg_no:(32:UInt8)∉sMessage:=by decide
theorem parse_msg {t:Bs} (h:txtB t=true) (hb:(124:UInt8)∉t):parseS (sMessage++32::swapB 10 124 t)=some (msgA t):=by
 generalize hs:sMessage++32::swapB 10 124 t=s
 have hn:(rd0 s).next=(sMessage,⟨s,splitL 32 (swapB 10 124 t),false⟩):=by
  unfold rd0
  rw[<-hs,splitL_cons msg_no];rfl
 have hc:cut s [32]=(sMessage,swapB 10 124 t,true):=by rw[<-hs];exact cut_at msg_no
 have ha:(rd0 s).act=(msgA t,⟨s,[],false⟩):=by
  unfold Rd.act
  rw[hn]
  simp only
  rw[if_neg (by decide),if_neg (by decide),if_pos trivial]
  unfold Rd.message
  simp only[hc]
  rw[swap_back2 hb];rfl
 unfold parseS
 rw[ha]
 simp only
 rw[if_pos ⟨trivial,trivial,by rw[line_msg h,hs]⟩]
def exA:Acx:={A0 1 with lost:=true,mv:=[⟨1,3,0⟩]}
def exL:Bs:=[116,105,99,107,32,108,111,115,116,32,115,116,105,99,107,58,51,58,48]
def exM:Bs:=[109,101,115,115,97,103,101,32,66,83,77,124,69,78,68,66,83,77,124]
def exT:Bs:=[116,105,99,107,32,109,105,115,115,58,48,58,48,32,115,116,105,99,107,58,51,58,48]
def exV:Bs:=[118,101,114,100,105,99,116,32,48,55,32,99,108,101,97,114]
theorem ex_line:lineS exA=some exL:=by decide+kernel
theorem ex_msg:parseS exM=some (msgA [66,83,77,10,69,78,68,66,83,77,10]):=by decide+kernel
theorem ex_tick:parseS exT=none:=by decide+kernel
theorem ex_verdict:parseS exV=none:=by decide+kernel
end Go.Scr
namespace Go.Proofs.YtokkbonoplbiaaaGreatDoor
open Go Go.Sym
open Go.Scr
theorem count_exM:exM.count 32<=999:=by decide
theorem count_exT:exT.count 32<=999:=by decide
theorem count_exV:exV.count 32<=999:=by decide
theorem sm_exA:SmA exA:=⟨by decide,by decide,by decide,by decide,by decide,by decide,by decide⟩
theorem awake_sat:SatG Tryz.prog tab 19 [] [] [] (B true):=by
 have h1:=line_sat exA sm_exA
 rw[ex_line] at h1
 replace h1:SatG Tryz.prog tab 12 [] [exA.av] [] (.tup [S (strOf exL),I 0]):=h1
 have h2:=parseline_sat exM (by decide) count_exM
 rw[ex_msg] at h2
 replace h2:SatG Tryz.prog tab 16 [] [S (strOf exM)] [] (.tup [(msgA [66,83,77,10,69,78,68,66,83,77,10]).av,I 0]):=h2
 have h3:=parseline_sat exT (by decide) count_exT
 rw[ex_tick] at h3
 replace h3:SatG Tryz.prog tab 16 [] [S (strOf exT)] [] (.tup [(A0 0).av,I 3]):=h3
 have h4:=parseline_sat exV (by decide) count_exV
 rw[ex_verdict] at h4
 replace h4:SatG Tryz.prog tab 16 [] [S (strOf exV)] [] (.tup [(A0 0).av,I 3]):=h4
 refine uFN Tryz.func19 Tryz.ntmps19 ?_;intro w e X hC
 repeat refine uA ?_
 refine uR ?_;intro K hK
 refine uH ?_
 refine callE [] [] false (h1) uTR uTR uTE uTE uTE uTE uTE uTE uTE uTE uTE uTE uTE uTE uTE uTE uTE ?_;refine uQS ?_
 refine hK _ ?_;clear hK K
 refine uR ?_;intro K hK
 refine uH ?_
 refine callP uTS (h2) uTS uTS uTS ?_;refine uS ?_
 refine uH ?_
 refine hK _ ?_;clear hK K
 refine uR ?_;intro K hK
 refine uH ?_
 refine callP uTS (h3) uTS uTS uTS ?_;refine uS ?_
 refine uH ?_
 refine hK _ ?_;clear hK K
 refine uR ?_;intro K hK
 refine uH ?_
 refine callP uTS (h4) uTS uTS uTS ?_;refine uS ?_
 refine uH ?_
 refine hK _ ?_;clear hK K
 have e1:decide (exL=[116,105,99,107,32,108,111,115,116,32,115,116,105,99,107,58,51,58,48])=true:=decide_eq_true rfl
 have e2:decide ((msgA [66,83,77,10,69,78,68,66,83,77,10]).k=3)=true:=decide_eq_true rfl
 have e3:decide ((msgA [66,83,77,10,69,78,68,66,83,77,10]).txt=[66,83,77,10,69,78,68,66,83,77,10])=true:=decide_eq_true rfl
 repeat refine uA1 (uI @e1 (uI @e2 @e3)) ?_
 (refine awp_ret (ret1 uRT ?_);try rfl)
open Go.Scr
theorem kpick_sat (l:List Int) (a:Nat) (es:List Int) (hf:Fits l) (ha:a<=l.length) (h0:0<es.length) (hn:es.length<=9223372036854775807):
  SatG Tryz.prog tab 33 (srcB l a) [.ptO 0 0 0 0 0,IS es] (srcB l (nxs l a 1)) (I (es.getD (modI (l.getD a 0) es.length).toNat 0)):=by
 have hm:=modI_lt (x:=l.getD a 0) (n:=es.length) (by omega)
 refine uFN Tryz.func33 Tryz.ntmps33 ?_;intro w e X hC
 repeat refine uA ?_
 refine uR ?_;intro K hK
 refine callL rfl ((n_sat l a es.length hf ha (by omega))) uTS uTS uTS uTS uTS ?_;refine uS ?_
 generalize modI (l.getD a 0) es.length=m at*
 have hlt:m.toNat<es.length:=by omega
 first|refine uS1 (ints_getD hlt) ?_|exact uX1 (ints_getD hlt)
 refine⟨(by(repeat' apply And.intro)<;>first|omega|simp),?_⟩
 refine hK _ ?_;clear hK K
 (refine awp_ret (retB1 rfl uTS uTS ?_ ?_);all_goals (first|refine uS ?_|exact uX|skip))
abbrev srcC (l:List Int) (a:Nat):Hp:=srcB l (min a l.length)
theorem getD_min {l:List Int} {a:Nat}:l.getD (min a l.length) 0=l.getD a 0:=by
 have:=nxs_get (l:=l) (a:=a) (i:=0)
 simpa[nxs] using this
theorem min_nxs {l:List Int} {a:Nat}:nxs l (min a l.length) 1=min (a+1) l.length:=by unfold nxs;omega
def gN (l:List Int) (a:Nat) (n:Int):Int:=modI (l.getD a 0) n
def gP (l:List Int) (a:Nat) (es:List Int):Int:=es.getD (gN l a es.length).toNat 0
theorem gN_lt {l:List Int} {a:Nat} {n:Int} (h:1<=n):0<=gN l a n/\gN l a n<n:=modI_lt h
theorem gRaw_sat (l:List Int) (a:Nat) (hf:Fits l):SatG Tryz.prog tab 51 (srcC l a) [.ptO 0 0 0 0 0] (srcC l (a+1)) (I (l.getD a 0)):=by
 have:=raw_sat l (min a l.length) hf (by omega)
 rwa[getD_min,min_nxs] at this
theorem gN_sat (l:List Int) (a:Nat) (n:Int) (hf:Fits l) (hn:n<=9223372036854775807):SatG Tryz.prog tab 23 (srcC l a) [.ptO 0 0 0 0 0,I n] (srcC l (a+1)) (I (gN l a n)):=by
 have:=n_sat l (min a l.length) n hf (by omega) hn
 rwa[getD_min,min_nxs] at this
theorem gP_sat (l:List Int) (a:Nat) (es:List Int) (hf:Fits l) (h0:0<es.length) (hn:es.length<=9223372036854775807):
  SatG Tryz.prog tab 33 (srcC l a) [.ptO 0 0 0 0 0,IS es] (srcC l (a+1)) (I (gP l a es)):=by
 have:=kpick_sat l (min a l.length) es hf (by omega) h0 hn
 rwa[getD_min,min_nxs] at this
def cut2 (l:List Int):List Int:=l.take 2000
theorem new_sat (l:List Int) (h:l.length<=9223372036854775807):SatG Tryz.prog tab 8 [] [IS l] [(100,some (1, .box [IS (cut2 l),I 0]))] (.ptO 100 1 0 0 0):=by
 refine uFN Tryz.func8 Tryz.ntmps8 ?_;intro w e X hC
 repeat refine uA ?_
 refine uW ?_;refine condP _ rfl (fun h=>?_) (fun h=>?_)
 ·repeat refine uA ?_
  have e:ints (l.take 2000)=ints (cut2 l):=rfl
  simp only[ints_take,e]
  refine awp_ret ?_;rw[show Tryz.f8.results.toList=[.tmp 2] from rfl];(refine retG [(100,1,110,10)] uRG (by simp) (by simp) (by simp) uTG uTG uTG ?_ ?_;all_goals (first|refine uSG ?_|exact uXG|skip))
 ·have e:l=cut2 l:=by rw[cut2,List.take_of_length_le (by omega)]
  repeat refine uA ?_
  rw[<-e]
  refine awp_ret ?_;rw[show Tryz.f8.results.toList=[.tmp 2] from rfl];(refine retG [(100,1,110,7)] uRG (by simp) (by simp) (by simp) uTG uTG uTG ?_ ?_;all_goals (first|refine uSG ?_|exact uXG|skip))
def gT (l:List Int) (a:Nat) (es:List Bs):Bs:=es.getD (gN l a es.length).toNat []
theorem gN_I64 {l:List Int} {a:Nat} {n:Int} (hn:I64 n):I64 (gN l a n):=by
 unfold I64 at*
 by_cases h:1<=n
 ·have:=gN_lt (l:=l) (a:=a) h;omega
 ·have:gN l a n=0:=by unfold gN modI;rw[if_pos (by omega)]
  omega
theorem gT_sat (l:List Int) (a:Nat) (es:List Bs) (hf:Fits l) (h0:0<es.length) (hn:es.length<=1000000):
  SatG Tryz.prog tab 15 (srcC l a) [.ptO 0 0 0 0 0, .sl (strs es) false] (srcC l (a+1)) (S (strOf (gT l a es))):=by
 have hm:=gN_lt (l:=l) (a:=a) (n:=es.length) (by omega)
 unfold gT
 refine uFN Tryz.func15 Tryz.ntmps15 ?_;intro w e X hC
 repeat refine uA ?_
 refine uR ?_;intro K hK
 refine callL rfl ((gN_sat l a es.length hf (by omega))) uTS uTS uTS uTS uTS ?_;refine uS ?_
 generalize gN l a es.length=m at*
 have hlt:m.toNat<es.length:=by omega
 first|refine uS1 (strs_getD hlt) ?_|exact uX1 (strs_getD hlt)
 refine⟨(by(repeat' apply And.intro)<;>first|omega|simp),?_⟩
 refine hK _ ?_;clear hK K
 (refine awp_ret (retB1 rfl uTS uTS ?_ ?_);all_goals (first|refine uS ?_|exact uX|skip))
theorem wrapI {x:Int} (h:I64 x):IntKind.i64.wrap x=x:=by
 rw[IntKind.wrap_i64]
 unfold I64 at h
 omega
theorem quoI {m k:Int} (h:0<=m) (h1:m<=9223372036854775807) (hk:0<k):IntKind.i64.wrap (m.tdiv k)=m / k:=by
 rw[Int.tdiv_eq_ediv_of_nonneg h]
 have h2:0<=m / k:=Int.ediv_nonneg h (by omega)
 have h3:m / k<=m:=Int.ediv_le_self _ h
 exact wrapI ⟨by omega,by omega⟩
def plates (i:Int):Plt:=⟨modI i 1000 / 500,117+modI i 1000 / 100 % 5,1000+modI i 1000 % 100⟩
theorem plates_sat (i:Int) (hi:I64 i):SatG Tryz.prog tab 54 [] [I i] [] (Plt.av (plates i)):=by
 have hm:=modI_lt (x:=i) (n:=1000) (by omega)
 unfold plates
 refine uFN Tryz.func54 Tryz.ntmps54 ?_;intro w e X hC
 repeat refine uA ?_
 refine uR ?_;intro K hK
 refine callF uTS ((mod_sat i 1000 hi (by omega))) uTS uTS uTS ?_;refine uS ?_
 refine hK _ ?_;clear hK K
 generalize modI i 1000=m at*
 have e1:=quoI (k:=500) hm.1 (by omega) (by decide)
 have e2:=quoI (k:=100) hm.1 (by omega) (by decide)
 have e3:(m / 100).tmod 5=m / 100 % 5:=Int.tmod_eq_emod_of_nonneg (by omega)
 have e4:m.tmod 100=m % 100:=Int.tmod_eq_emod_of_nonneg hm.1
 repeat refine uA1 (uI @e1 (uI @e2 (uI @e3 @e4))) ?_
 refine awp_ret ?_;rw[show Tryz.f54.results.toList=[.cell 2 24] from rfl];first|refine uRN ?_|exact uRM
theorem kplate_sat (l:List Int) (a:Nat) (n:Int) (hf:Fits l) (hn:I64 n):SatG Tryz.prog tab 27 (srcC l a) [.ptO 0 0 0 0 0,I n] (srcC l (a+1)) (Plt.av (plates (gN l a n))):=by
 refine uFN Tryz.func27 Tryz.ntmps27 ?_;intro w e X hC
 repeat refine uA ?_
 refine uR ?_;intro K hK
 refine callL rfl ((gN_sat l a n hf hn.2)) uTS uTS uTS uTS uTS ?_;refine uS ?_
 refine callF uTS ((plates_sat _ (gN_I64 hn))) uTS uTS uTS ?_;refine uS ?_
 refine hK _ ?_;clear hK K
 refine awp_ret ?_;rw[show Tryz.f27.results.toList=[.cell 4 24] from rfl];(refine(retBs uRG rfl uTC uTC ?_ ?_);all_goals (first|refine uSC ?_|exact uXC|skip))
def carL:List Bs:=[[66,65],[76,72],[83,75]]
def flights (i:Int):Flt:=⟨carL.getD (modI i 27 / 9).toNat [],1+modI i 27 / 3 % 3,[],1+modI i 27 % 3⟩
theorem flights_sat (i:Int) (hi:I64 i):SatG Tryz.prog tab 29 [] [I i] [] (Flt.av (flights i)):=by
 have hm:=modI_lt (x:=i) (n:=27) (by omega)
 unfold flights
 refine uFN Tryz.func29 Tryz.ntmps29 ?_;intro w e X hC
 repeat refine uA ?_
 refine uR ?_;intro K hK
 refine callF uTS ((mod_sat i 27 hi (by omega))) uTS uTS uTS ?_;refine uS ?_
 refine hK _ ?_;clear hK K
 generalize modI i 27=m at*
 have e1:=quoI (k:=9) hm.1 (by omega) (by decide)
 have e2:=quoI (k:=3) hm.1 (by omega) (by decide)
 have e3:(m / 3).tmod 3=m / 3 % 3:=Int.tmod_eq_emod_of_nonneg (by omega)
 have e4:m.tmod 3=m % 3:=Int.tmod_eq_emod_of_nonneg hm.1
 have h0:m / 9=0\/m / 9=1\/m / 9=2:=by omega
 rcases h0 with h0|h0|h0
 ·repeat refine uA1 (uI @e1 (uI @e2 (uI @e3 (uI @e4 @h0)))) ?_
  rw[h0]
  refine awp_ret ?_;rw[show Tryz.f29.results.toList=[.cell 2 26] from rfl];first|refine uRN ?_|exact uRM
  rfl
 ·repeat refine uA1 (uI @e1 (uI @e2 (uI @e3 (uI @e4 @h0)))) ?_
  rw[h0]
  refine awp_ret ?_;rw[show Tryz.f29.results.toList=[.cell 2 26] from rfl];first|refine uRN ?_|exact uRM
  rfl
 ·repeat refine uA1 (uI @e1 (uI @e2 (uI @e3 (uI @e4 @h0)))) ?_
  rw[h0]
  refine awp_ret ?_;rw[show Tryz.f29.results.toList=[.cell 2 26] from rfl];first|refine uRN ?_|exact uRM
  rfl
def carG:List Bs:=[[83,75],[66,65],[76,72]]
def gF (l:List Int) (a:Nat):Flt:=⟨gT l a carG,1+gN l (a+1) 3,[],1+gN l (a+2) 3⟩
theorem gF_sat (l:List Int) (a:Nat) (hf:Fits l):SatG Tryz.prog tab 57 (srcC l a) [.ptO 0 0 0 0 0] (srcC l (a+3)) (Flt.av (gF l a)):=by
 have h1:SatG Tryz.prog tab 15 (srcC l a) [.ptO 0 0 0 0 0, .sl [.lit (.string ⟨#[83,75]⟩), .lit (.string ⟨#[66,65]⟩), .lit (.string ⟨#[76,72]⟩)] false] (srcC l (a+1)) (S (strOf (gT l a carG))):=gT_sat l a carG hf (by decide) (by decide)
 have h2:=gN_sat l (a+1) 3 hf (by decide)
 have h3:=gN_sat l (a+1+1) 3 hf (by decide)
 have b2:=gN_lt (l:=l) (a:=a+1) (n:=3) (by decide)
 have b3:=gN_lt (l:=l) (a:=a+1+1) (n:=3) (by decide)
 refine uFN Tryz.func57 Tryz.ntmps57 ?_;intro w e X hC
 repeat refine uA ?_
 refine uR ?_;intro K hK
 refine callL rfl (h1) uTS uTS uTS uTS uTS ?_;refine uS ?_
 refine callL rfl (h2) uTS uTS uTS uTS uTS ?_;refine uS ?_
 refine uH ?_
 refine callL rfl (h3) uTS uTS uTS uTS uTS ?_;refine uS ?_
 refine uH ?_
 refine hK _ ?_;clear hK K
 refine awp_ret ?_;rw[show Tryz.f57.results.toList=[.cell 2 26] from rfl];(refine(retBs uRG rfl uTC uTC ?_ ?_);all_goals (first|refine uSC ?_|exact uXC|skip))
 rfl
def dgs:Nat->Int->Int->Bs->Bs
 |0,_,_,s=>s
 |k+1,x,n,s=>if 0<x\/(s.length:Int)<n then dgs k (x / 10) n (UInt8.ofNat (48+(x % 10).toNat)::s) else s
theorem dgs_length:∀(k:Nat) (x n:Int) (s:Bs),(dgs k x n s).length<=k+s.length
 |0,_,_,_=>by simp[dgs]
 |k+1,x,n,s=>by
  unfold dgs
  split
  ·have:=dgs_length k (x / 10) n (UInt8.ofNat (48+(x % 10).toNat)::s)
   rw[List.length_cons] at this
   omega
  ·omega
theorem digits_sat (x n:Int) (hx:0<=x/\x<10^12) (hn:n<=12):SatG Tryz.prog tab 55 [] [I x,I n] [] (S (strOf (dgs 12 x n []))):=by
 refine uFN Tryz.func55 Tryz.ntmps55 ?_;intro w e X hC
 repeat refine uA ?_
 refine uW ?_
 refine awp_loopW (fun i:Nat×Nat×Int×Bs=>⟨[(0,I i.2.2.1),(1,I n),(5,S (strOf i.2.2.2))],[],i.1⟩) (fun i=>0<=i.2.2.1/\i.2.2.1<10^i.2.1/\i.2.1<=12/\n<=(i.2.1:Int)+i.2.2.2.length/\i.2.1+i.2.2.2.length=12/\dgs i.2.1 i.2.2.1 n i.2.2.2=dgs 12 x n []) (fun i=>i.2.1) (_,12,x,[]) ⟨hx.1,hx.2,Nat.le_refl _,by simp;omega,rfl,rfl⟩ (uKF) ?_
 rintro⟨ck,k,y,s⟩ ⟨h1,h2,h3,h4,h5,h6⟩
 simp only at h1 h2 h3 h4 h5 h6
 have hk:y<=1000000000000:=by
  have h7:(10:Nat)^k<=10^12:=Nat.pow_le_pow_right (by decide) h3
  have h8:((10^k:Nat):Int)=10^k:=by simp
  omega
 have step:(0<y\/(s.length:Int)<n)->∃j,k=j+1:=by
  intro h
  cases k with
  |zero=>simp at h2 h4;omega
  |succ j=>exact⟨j,rfl⟩
 by_cases c:0<y\/(s.length:Int)<n
 ·obtain⟨j,rfl⟩:=step c
  have e0:dgs (j+1) y n s=dgs j (y / 10) n (UInt8.ofNat (48+(y % 10).toNat)::s):=by rw[dgs,if_pos c]
  have hb:bytesOf [.lit (.int .u8 (IntKind.u8.wrap (48+modI y 10)))]=some [UInt8.ofNat (48+(y % 10).toNat)]:=by
   have hm:modI y 10=y % 10:=by unfold modI;rw[if_neg (by decide)]
   have e7:IntKind.u8.wrap (48+modI y 10)=(((UInt8.ofNat (48+(y % 10).toNat)).toNat:Nat):Int):=by
    rw[hm,IntKind.wrap_u8,UInt8.toNat_ofNat']
    omega
   rw[e7]
   exact byts_bytes [UInt8.ofNat (48+(y % 10).toNat)]
  by_cases c1:0<y
  ·have e1:decide (0<y)=true:=decide_eq_true c1
   repeat refine uA1 @e1 ?_
   refine uT ?_
   have hm:=modI_lt (x:=y) (n:=10) (by decide)
   refine uR ?_;intro K hK
   refine callF uTS ((mod_sat y 10 ⟨by omega,by omega⟩ (by decide))) uTS uTS uTS ?_;refine uS ?_
   refine uH ?_
   first|refine uS1 @hb ?_|exact uX1 @hb
   refine⟨by omega,?_⟩
   refine hK _ ?_;clear hK K
   have e3:=quoI (m:=y) (k:=10) h1 (by omega) (by decide)
   repeat refine uA1 @e3 ?_
   refine⟨(_,j,y / 10,UInt8.ofNat (48+(y % 10).toNat)::s),⟨by simp only;omega,by simp only;rw[Int.pow_succ] at h2;omega,by simp only;omega,by simp only[List.length_cons];omega,by simp only[List.length_cons];omega,by simp only;rw[<-e0];exact h6⟩,by simp only;omega,uKF⟩
  ·have e1:decide (0<y)=false:=decide_eq_false c1
   have e2:=uDt ((s.length:Int)<n)
   repeat refine uA1 (uI @e1 @e2) ?_
   refine uT ?_
   have hm:=modI_lt (x:=y) (n:=10) (by decide)
   refine uR ?_;intro K hK
   refine callF uTS ((mod_sat y 10 ⟨by omega,by omega⟩ (by decide))) uTS uTS uTS ?_;refine uS ?_
   refine uH ?_
   first|refine uS1 @hb ?_|exact uX1 @hb
   refine⟨by omega,?_⟩
   refine hK _ ?_;clear hK K
   have e3:=quoI (m:=y) (k:=10) h1 (by omega) (by decide)
   repeat refine uA1 @e3 ?_
   refine⟨(_,j,y / 10,UInt8.ofNat (48+(y % 10).toNat)::s),⟨by simp only;omega,by simp only;rw[Int.pow_succ] at h2;omega,by simp only;omega,by simp only[List.length_cons];omega,by simp only[List.length_cons];omega,by simp only;rw[<-e0];exact h6⟩,by simp only;omega,uKF⟩
 ·have e1:=uDf (0<y)
  have e2:=uDf ((s.length:Int)<n)
  have e3:dgs k y n s=s:=by
   cases k with
   |zero=>rfl
   |succ j=>rw[dgs,if_neg c]
  rw[e3] at h6
  rw[<-h6]
  repeat refine uA1 (uI @e1 @e2) ?_
  refine uF ?_
  refine awp_exit ?_
  repeat refine uA ?_
  (refine awp_ret (ret1 uRT ?_);try rfl)
open Go.Scr
def desg (i:Int):Bs:=(flights i).car++dgs 12 (flights i).num 4 []++[47]++dgs 12 (flights i).day 2 []
theorem carL_len (n:Nat):(carL.getD n []).length<=2:=by
 match n with
 |0=>decide
 |1=>decide
 |2=>decide
 |n+3=>exact Nat.zero_le 2
theorem flights_b (i:Int):(flights i).car.length<=2/\1<=(flights i).num/\(flights i).num<=3/\1<=(flights i).day/\(flights i).day<=3/\(flights i).suf=[]:=by
 have hm:=modI_lt (x:=i) (n:=27) (by omega)
 unfold flights
 exact⟨carL_len _,by simp only;omega,by simp only;omega,by simp only;omega,by simp only;omega,rfl⟩
theorem desg_len (i:Int):(desg i).length<=27:=by
 have h1:=(flights_b i).1
 have h2:=dgs_length 12 (flights i).num 4 []
 have h3:=dgs_length 12 (flights i).day 2 []
 unfold desg
 simp only[List.length_append,List.length_cons,List.length_nil] at*
 omega
theorem desg_sat (i:Int) (hi:I64 i):SatG Tryz.prog tab 56 [] [I i] [] (S (strOf (desg i))):=by
 obtain⟨b1,b2,b3,b4,b5,b6⟩:=flights_b i
 have h0:=flights_sat i hi
 unfold desg
 generalize flights i=f at*
 have l1:=dgs_length 12 f.num 4 []
 have l2:=dgs_length 12 f.day 2 []
 have h1:=digits_sat f.num 4 ⟨by omega,by omega⟩ (by decide)
 have h2:=digits_sat f.day 2 ⟨by omega,by omega⟩ (by decide)
 generalize dgs 12 f.num 4 []=d1 at*
 generalize dgs 12 f.day 2 []=d2 at*
 refine uFN Tryz.func56 Tryz.ntmps56 ?_;intro w e X hC
 repeat refine uA ?_
 refine uR ?_;intro K hK
 refine callF uTS (h0) uTS uTS uTS ?_;refine uS ?_
 refine hK _ ?_;clear hK K
 refine uD ?_;intro K hK
 refine callF uTS (h1) uTS uTS uTS ?_;refine uS ?_
 simp only[List.length_cons,List.length_nil] at l1 l2
 refine uH ?_
 refine callF uTS (h2) uTS uTS uTS ?_;refine uS ?_
 refine uH ?_
 refine hK _ ?_;clear hK K
 (refine awp_ret (ret1 uRT ?_);try rfl)
def srcP1:Bs:=[66,83,77,10,46,86,47,49,76,67,80,72,47]
def srcP2:Bs:=[10,46,70,47]
def srcP3:Bs:=[47,76,72,82,47,89,10,46,78,47]
def srcP4:Bs:=[47,48,48,49,10,46,83,47,89,47,67,47,48,48,51,10,46,87,47,75,47,49,48,10,46,80,47,68,79,69,47,74,10,69,78,68,66,83,77,10]
def srcT (n i:Int) (p:Plt):Bs:=srcP1++dgs 12 n 1 []++srcP2++desg i++srcP3++dgs 12 p.l 1 []++dgs 12 p.a 3 []++dgs 12 p.s 6 []++srcP4
def SmPl (p:Plt):Prop:=0<=p.l/\p.l<=9/\0<=p.a/\p.a<=999/\0<=p.s/\p.s<=999999
theorem srcT_len (n i:Int) (p:Plt):(srcT n i p).length<=200:=by
 have h0:=desg_len i
 have h1:=dgs_length 12 n 1 []
 have h2:=dgs_length 12 p.l 1 []
 have h3:=dgs_length 12 p.a 3 []
 have h4:=dgs_length 12 p.s 6 []
 unfold srcT
 simp only[List.length_append,List.length_nil,srcP1,srcP2,srcP3,srcP4,List.length_cons] at*
 omega
theorem source_sat (n i:Int) (p:Plt) (hn:0<=n/\n<=1000) (hi:I64 i) (hp:SmPl p):SatG Tryz.prog tab 28 [] [I n,I i,Plt.av p] [] (S (strOf (srcT n i p))):=by
 obtain⟨p1,p2,p3,p4,p5,p6⟩:=hp
 have h0:=desg_len i
 have l1:=dgs_length 12 n 1 []
 have l2:=dgs_length 12 p.l 1 []
 have l3:=dgs_length 12 p.a 3 []
 have l4:=dgs_length 12 p.s 6 []
 have s0:=desg_sat i hi
 have s1:=digits_sat n 1 ⟨by omega,by omega⟩ (by decide)
 have s2:=digits_sat p.l 1 ⟨by omega,by omega⟩ (by decide)
 have s3:=digits_sat p.a 3 ⟨by omega,by omega⟩ (by decide)
 have s4:=digits_sat p.s 6 ⟨by omega,by omega⟩ (by decide)
 unfold srcT
 generalize dgs 12 n 1 []=d1 at*
 generalize dgs 12 p.l 1 []=d2 at*
 generalize dgs 12 p.a 3 []=d3 at*
 generalize dgs 12 p.s 6 []=d4 at*
 generalize desg i=d0 at*
 simp only[List.length_nil] at l1 l2 l3 l4
 refine uFN Tryz.func28 Tryz.ntmps28 ?_;intro w e X hC
 repeat refine uA ?_
 refine uD ?_;intro K hK
 refine callF uTS (s1) uTS uTS uTS ?_;refine uS ?_
 refine uH ?_
 refine callF uTS (s0) uTS uTS uTS ?_;refine uS ?_
 refine uH ?_
 refine callF uTS (s2) uTS uTS uTS ?_;refine uS ?_
 refine uH ?_
 refine callF uTS (s3) uTS uTS uTS ?_;refine uS ?_
 refine uH ?_
 refine callF uTS (s4) uTS uTS uTS ?_;refine uS ?_
 refine uH ?_
 refine hK _ ?_;clear hK K
 (refine awp_ret (ret1 uRT ?_);try rfl)
def brdP:Bs:=[66,66,77,10,46,86,47,49,76,67,80,72,47]
def brdQ:Bs:=[47,76,72,82,47,89,10,46,66,47,48,48,51,10,69,78,68,66,66,77,10]
def brdT (n i:Int):Bs:=brdP++dgs 12 n 1 []++srcP2++desg i++brdQ
theorem brdT_len (n i:Int):(brdT n i).length<=200:=by
 have h0:=desg_len i
 have h1:=dgs_length 12 n 1 []
 unfold brdT
 simp only[List.length_append,List.length_nil,srcP2,brdP,brdQ,List.length_cons] at*
 omega
theorem boarded_sat (n i:Int) (hn:0<=n/\n<=1000) (hi:I64 i):SatG Tryz.prog tab 32 [] [I n,I i] [] (S (strOf (brdT n i))):=by
 have h0:=desg_len i
 have l1:=dgs_length 12 n 1 []
 have s0:=desg_sat i hi
 have s1:=digits_sat n 1 ⟨by omega,by omega⟩ (by decide)
 unfold brdT
 generalize dgs 12 n 1 []=d1 at*
 generalize desg i=d0 at*
 simp only[List.length_nil] at l1
 refine uFN Tryz.func32 Tryz.ntmps32 ?_;intro w e X hC
 repeat refine uA ?_
 refine uR ?_;intro K hK
 refine callF uTS (s1) uTS uTS uTS ?_;refine uS ?_
 refine uH ?_
 refine callF uTS (s0) uTS uTS uTS ?_;refine uS ?_
 refine uH ?_
 refine hK _ ?_;clear hK K
 (refine awp_ret (ret1 uRT ?_);try rfl)
open Go.Scr
def depA (i:Int):AV:= .agg [S (strOf (flights i).car),I (flights i).num,S (strOf (flights i).suf),I (flights i).day,S (strOf [76,72,82]),I (40*i),I (40*i+40),I (40*i+50),I 0,I 0]
def deps:List AV:=[depA 0,depA 1]
theorem deps_getD (i:Int) (h:0<=i/\i<2):deps.getD i.toNat .bad= .agg [S (strOf (flights i).car),I (flights i).num,S (strOf (flights i).suf),I (flights i).day,S (strOf [76,72,82]),I (40*i),I (40*i+40),I (40*i+50),I 0,I 0]:=by
 have:i=0\/i=1:=by omega
 rcases this with rfl|rfl<;>rfl
theorem deps_length:deps.length=2:=rfl
theorem PE_deps:PE deps=True:=by
 refine eq_true fun e he c hc=>?_
 simp only[deps,List.mem_cons,List.not_mem_nil,or_false] at he
 rcases he with rfl|rfl<;>
 ·simp only[depA,AV.cells,List.mem_cons,List.not_mem_nil,or_false] at hc
  rcases hc with rfl|rfl|rfl|rfl|rfl|rfl|rfl|rfl|rfl|rfl<;>first|trivial|rfl
theorem all_deps:(∀y∈deps,y.cells.length=10)=True:=by
 refine eq_true fun e he=>?_
 simp only[deps,List.mem_cons,List.not_mem_nil,or_false] at he
 rcases he with rfl|rfl<;>rfl
attribute [go_sem] deps_length PE_deps all_deps
def gv1 (l:List Int) (a:Nat) (f:Flt):Flt×Nat:=if 0<gN l a 8 then(flights (gN l (a+1) 2),a+2) else(f,a+1)
def gv2 (l:List Int) (a:Nat) (k:Int):Int×Nat:=
 if k=1 then(1+gN l a 20,a+1) else if k=2 then(gN l a 60,a+1) else if k=3 then(gN l a 101,a+1) else(0,a)
def gv3 (l:List Int) (a:Nat) (m:Int):Int×Nat:=if gN l a 12=11 then(l.getD (a+1) 0,a+2) else(m,a+1)
def gV (l:List Int) (a:Nat):Rev×Nat:=
 (⟨1+gN l a 5,(gv3 l (gv2 l (gv1 l (a+4) (gF l (a+1))).2 (1+gN l a 5)).2 (gv2 l (gv1 l (a+4) (gF l (a+1))).2 (1+gN l a 5)).1).1,(gv1 l (a+4) (gF l (a+1))).1⟩,
  (gv3 l (gv2 l (gv1 l (a+4) (gF l (a+1))).2 (1+gN l a 5)).2 (gv2 l (gv1 l (a+4) (gF l (a+1))).2 (1+gN l a 5)).1).2)
theorem gV_sat (l:List Int) (a:Nat) (hf:Fits l):SatG Tryz.prog tab 30 (srcC l a) [.ptO 0 0 0 0 0, .sl deps false] (srcC l (gV l a).2) (Rev.av (gV l a).1):=by
 have h1:=gN_sat l a 5 hf (by decide)
 have b1:=gN_lt (l:=l) (a:=a) (n:=5) (by decide)
 have h2:=gF_sat l (a+1) hf
 unfold gV
 generalize gF l (a+1)=f at*
 generalize gN l a 5=k at*
 refine uFN Tryz.func30 Tryz.ntmps30 ?_;intro w e X hC
 repeat refine uA ?_
 refine uR ?_;intro K hK
 refine callL rfl (h1) uTS uTS uTS uTS uTS ?_;refine uS ?_
 refine uH ?_
 refine callL rfl (h2) uTS uTS uTS uTS uTS ?_;refine uS ?_
 refine hK _ ?_;clear hK K
 refine awp_seq ?_
 refine awp_merge (fun q:Nat=>⟨[(0, .ptO 0 0 0 0 0),(1, .sl deps false),(4, .ptO 104 1 0 0 0),(5, .ptO 105 8 0 0 0)],(105,some (8, .box [I (1+k),I 0,S (strOf (gv1 l (a+4) f).1.car),I (gv1 l (a+4) f).1.num,S (strOf (gv1 l (a+4) f).1.suf),I (gv1 l (a+4) f).1.day]))::(104,some (1, .box [I 0,I 0, .lit (.string .empty),I 0, .lit (.string .empty),I 0]))::srcC l (gv1 l (a+4) f).2,q⟩) (fun _=>True) ?_ ?_
 ·have h3:=gN_sat l (a+4) 8 hf (by decide)
  have b3:=gN_lt (l:=l) (a:=a+4) (n:=8) (by decide)
  have e0:decide (0<((2:Nat):Int))=true:=rfl
  unfold gv1
  generalize gN l (a+4) 8=c at*
  refine uR1 @e0 ?_;intro K hK
  refine callL rfl (h3) uTS uTS uTS uTS uTS ?_;refine uS ?_
  refine hK _ ?_;clear hK K
  refine uW ?_;refine condP _ rfl (fun c0=>?_) (fun c0=>?_)
  ·have h4:=gN_sat l (a+4+1) 2 hf (by decide)
   have b4:=gN_lt (l:=l) (a:=a+4+1) (n:=2) (by decide)
   rw[if_pos c0]
   generalize gN l (a+4+1) 2=d at*
   have g1:=deps_getD d b4
   refine uR ?_;intro K hK
   refine callL rfl (h4) uTS uTS uTS uTS uTS ?_;refine uS ?_
   first|refine uS1 @g1 ?_|exact uX1 @g1
   refine uH ?_
   refine hK _ ?_;clear hK K
   refine uW ?_
   refine⟨_,trivial,uKF⟩
  ·rw[if_neg c0]
   refine uW ?_
   refine⟨_,trivial,uKF⟩
 ·rintro q -
  generalize gv1 l (a+4) f=v at*
  obtain⟨f',a'⟩:=v
  simp only
  refine uA ?_
  refine awp_merge (fun q:Nat=>⟨[(0, .ptO 0 0 0 0 0),(4, .ptO 104 1 0 0 0),(5, .ptO 105 8 0 0 0)],(105,some (8, .box [I (1+k),I (gv2 l a' (1+k)).1,S (strOf f'.car),I f'.num,S (strOf f'.suf),I f'.day]))::(104,some (1, .box [I 0,I 0, .lit (.string .empty),I 0, .lit (.string .empty),I 0]))::srcC l (gv2 l a' (1+k)).2,q⟩) (fun _=>True) ?_ ?_
  ·have b2:=gN_lt (l:=l) (a:=a') (n:=20) (by decide)
   by_cases c1:k=0
   ·have e1:=uDt (1+k=1)
    unfold gv2
    rw[if_pos (by omega)]
    have h5:=gN_sat l a' 20 hf (by decide)
    repeat refine uA1 @e1 ?_
    refine uT ?_
    refine uR ?_;intro K hK
    refine callL rfl (h5) uTS uTS uTS uTS uTS ?_;refine uS ?_
    refine uH ?_
    refine hK _ ?_;clear hK K
    refine uW ?_
    refine⟨_,trivial,uKF⟩
   ·by_cases c2:k=1
    ·have e1:=uDf (1+k=1)
     have e2:=uDt (1+k=2)
     unfold gv2
     rw[if_neg (by omega),if_pos (by omega)]
     have h5:=gN_sat l a' 60 hf (by decide)
     repeat first|refine uC ?_|refine uA1 (uI @e1 @e2) ?_
     refine uR ?_;intro K hK
     refine callL rfl (h5) uTS uTS uTS uTS uTS ?_;refine uS ?_
     refine hK _ ?_;clear hK K
     refine uW ?_
     refine⟨_,trivial,uKF⟩
    ·by_cases c3:k=2
     ·have e1:=uDf (1+k=1)
      have e2:=uDf (1+k=2)
      have e3:=uDt (1+k=3)
      unfold gv2
      rw[if_neg (by omega),if_neg (by omega),if_pos (by omega)]
      have h5:=gN_sat l a' 101 hf (by decide)
      repeat first|refine uC ?_|refine uA1 (uI @e1 (uI @e2 @e3)) ?_
      refine uR ?_;intro K hK
      refine callL rfl (h5) uTS uTS uTS uTS uTS ?_;refine uS ?_
      refine hK _ ?_;clear hK K
      refine uW ?_
      refine⟨_,trivial,uKF⟩
     ·have e1:=uDf (1+k=1)
      have e2:=uDf (1+k=2)
      have e3:=uDf (1+k=3)
      unfold gv2
      rw[if_neg (by omega),if_neg (by omega),if_neg (by omega)]
      repeat first|refine uC ?_|refine uA1 (uI @e1 (uI @e2 @e3)) ?_
      refine uW ?_
      refine⟨_,trivial,uKF⟩
  ·rintro q -
   generalize gv2 l a' (1+k)=v at*
   obtain⟨m,b⟩:=v
   have h6:=gN_sat l b 12 hf (by decide)
   have h7:=gRaw_sat l (b+1) hf
   unfold gv3
   generalize gN l b 12=c at*
   refine uR ?_;intro K hK
   refine callL rfl (h6) uTS uTS uTS uTS uTS ?_;refine uS ?_
   refine hK _ ?_;clear hK K
   refine uW ?_;refine condP _ rfl (fun c0=>?_) (fun c0=>?_)
   ·rw[if_pos c0]
    refine uR ?_;intro K hK
    refine callL rfl (h7) uTS uTS uTS uTS uTS ?_;refine uS ?_
    refine hK _ ?_;clear hK K
    repeat refine uA ?_
    refine awp_ret ?_;rw[show Tryz.f30.results.toList=[.cell 4 28] from rfl];(refine(retBs uRG rfl uTC uTC ?_ ?_);all_goals (first|refine uSC ?_|exact uXC|skip))
   ·rw[if_neg c0]
    repeat refine uA ?_
    refine awp_ret ?_;rw[show Tryz.f30.results.toList=[.cell 4 28] from rfl];(refine(retBs uRG rfl uTC uTC ?_ ?_);all_goals (first|refine uSC ?_|exact uXC|skip))
end Go.Proofs.YtokkbonoplbiaaaGreatDoor
