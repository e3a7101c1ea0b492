/- Lemmas towards scriptLines_card: no conditions of their own beyond those that each one states. -/
import Derived.Test.YtokkbonoplbiaaaGreatDoorA7
set_option linter.all false
set_option linter.unusedSimpArgs false
set_option linter.unusedVariables false
set_option linter.deprecated false
namespace Go.Proofs.YtokkbonoplbiaaaGreatDoor
open Go Go.Sym
open Go.Scr
abbrev nodA (nm:Bs) (k n z:Int) (ex:AV):AV:= .agg [S (strOf nm),I k,I n,I z,ex]
abbrev smallN:List AV:=[nodA [73,78] 1 1 0 (IS [1]),nodA [88,82,65,89] 3 1 0 (IS [2]),nodA [71,65,84,69] 6 1 0 (IS [5,3]),nodA [66,69,76,84] 2 2 1 (IS [4]),nodA [67,49] 8 0 1 (.sl [] false),nodA [72,65,78,68] 9 0 0 (.sl [] false)]
abbrev conA (n i:Int):AV:= .agg [I n,S (strOf (flights i).car),I (flights i).num,S (strOf (flights i).suf),I (flights i).day,I 31,I 500,I 9,I 1,I 0, .sl [] false]
abbrev smallA:AV:= .agg [.sl smallN false, .sl [.agg [I 2,I 2,I 0]] false, .sl deps false, .sl [conA 1 0,conA 2 1] false,I 9,I 9,I 9,I 9,I 0,I 3,I 0,I 2]
abbrev smallM:List AV:=[nodA [73,78] 1 1 0 (.slO 107 2 0 1),nodA [88,82,65,89] 3 1 0 (.slO 109 4 0 1),nodA [71,65,84,69] 6 1 0 (.slO 111 6 0 2),nodA [66,69,76,84] 2 2 1 (.slO 113 8 0 1),nodA [67,49] 8 0 1 (.sl [] true),nodA [72,65,78,68] 9 0 0 (.sl [] true)]
theorem deps_take {i:Nat} (h:i<2):deps.take i++[.agg [S (strOf (flights i).car),I (flights i).num,S (strOf (flights i).suf),I (flights i).day,S (strOf [76,72,82]),I (40*i),I (40*i+40),I (40*i+50),I 0,I 0]]=deps.take (i+1):=by
 have:i=0\/i=1:=by omega
 rcases this with rfl|rfl<;>rfl
theorem small_sat:SatG Tryz.prog tab 31 [] [I 0] [] smallA:=by
 have f0:=flights_sat 0 ⟨by decide,by decide⟩
 have f1:=flights_sat 1 ⟨by decide,by decide⟩
 refine uFN Tryz.func31 Tryz.ntmps31 ?_;intro w e X hC
 repeat refine uA ?_
 refine uW ?_
 refine awp_loopW (fun i:Nat×Nat=>⟨[(0,I 0),(2, .ptO 102 1 0 0 0),(3, .slO 117 12 0 6),(4, .slO 104 14 0 i.2),(5,I i.2)],[(104,some (14, .own 113 10 (deps.take i.2))),(117,some (12, .own 115 5 smallM)),(107,some (2, .own 3 1 [I 1])),(109,some (4, .own 3 1 [I 2])),(111,some (6, .own 3 1 [I 5,I 3])),(113,some (8, .own 3 1 [I 4])),(102,some (1, .box [.sl [] true, .sl [] true, .sl [] true, .sl [] true,I 0,I 0,I 0,I 0,I 0,I 0,I 0,I 0]))],i.1⟩) (fun i=>i.2<=2) (fun i=>2 - i.2) (_,0) (Nat.zero_le _) (uKF) ?_
 rintro⟨ck,i⟩ hi
 simp only at hi
 repeat refine uA ?_
 refine uW ?_;refine condP _ rfl (fun h=>?_) (fun h=>?_)
 ·have hlt:i<2:=by omega
  have hf:=flights_sat i ⟨by omega,by omega⟩
  have hl:(deps.take i).length=i:=by rw[List.length_take];exact Nat.min_eq_left (by rw[deps_length];omega)
  have ht:=deps_take hlt
  refine uR ?_;intro K hK
  refine callF uTS (hf) uTS uTS uTS ?_;refine uS ?_
  refine uH ?_
  refine hK _ ?_;clear hK K
  repeat refine uA ?_
  refine⟨(_,i+1),by simp only;omega,by simp only;omega, .of (Nat.le_refl _) (.cons ?_ uHF) uWF⟩
  ·rw[<-ht];rfl
 ·refine awp_exit ?_
  obtain rfl:i=2:=by omega
  have ht:deps.take 2=deps:=rfl
  rw[ht]
  refine uR ?_;intro K hK
  refine callF uTS (f0) uTS uTS uTS ?_;refine uS ?_
  refine callF uTS (f1) uTS uTS uTS ?_;refine uS ?_
  refine hK _ ?_;clear hK K
  repeat refine uA ?_
  refine awp_ret ?_;rw[show Tryz.f31.results.toList=[.cell 2 75] from rfl];first|refine uRN ?_|exact uRM
  rfl
open Go.Scr
def gA5 (l:List Int) (a:Nat) (p:Plt):Acx×Nat:=
 if gN l (gV l (a+4)).2 4=0 then({A0 9 with dev:=1+gN l a 2,plt:=p,con:=1+gN l (a+1) 2},(gV l (a+4)).2+1)
 else if gN l (gV l (a+4)).2 4=1 then({A0 10 with plt:=p,node:=4+gN l (a+2) 2},(gV l (a+4)).2+1)
 else if gN l (gV l (a+4)).2 4=2 then({A0 13 with flt:=flights (gN l (a+3) 2)},(gV l (a+4)).2+1)
 else({A0 5 with rev:=(gV l (a+4)).1},(gV l (a+4)).2+1)
def gA6 (l:List Int) (a:Nat):Acx×Nat:=
 if gN l (a+6) 6=0 then({A0 11 with dev:=1+gN l a 2},a+7)
 else if gN l (a+6) 6=1 then({A0 12 with dev:=1+gN l (a+1) 2},a+7)
 else if gN l (a+6) 6=2 then(A0 14,a+7)
 else if gN l (a+6) 6=3 then({A0 6 with node:=gN l (a+2) 6},a+7)
 else if gN l (a+6) 6=4 then({A0 7 with node:=gN l (a+3) 6},a+7)
 else({A0 3 with txt:=brdT (1+gN l (a+4) 4) (gN l (a+5) 2)},a+7)
def gMv (l:List Int) (a:Nat):List Flaw×Nat:=if gN l a 8=7 then([⟨1+gN l (a+1) 2,gN l (a+2) 4,0⟩],a+3) else([],a+1)
def gGl (l:List Int) (a:Nat):List Flaw×Nat:=if gN l a 8=7 then([⟨gP l (a+1) [3,5,6],0,gN l (a+2) 10⟩],a+3) else([],a+1)
def gAt (l:List Int) (a:Nat):Acx×Nat:=
 ({A0 1 with lost:=decide (gN l a 12=11),mv:=(gMv l (a+1)).1,gl:=(gGl l (gMv l (a+1)).2).1},(gGl l (gMv l (a+1)).2).2)
def gA (l:List Int) (a:Nat):Acx×Nat:=
 if gN l (a+1) 14=0 then({A0 3 with txt:=srcT (1+gN l (a+2) 4) (gN l (a+3) 2) (plates (gN l a 3))},a+4)
 else if gN l (a+1) 14=1 then({A0 2 with plt:=plates (gN l a 3)},a+2)
 else if gN l (a+1) 14=2\/gN l (a+1) 14=3 then({A0 4 with img:=1+gN l (a+2) 3,clr:=decide (0<gN l (a+3) 3)},a+4)
 else if gN l (a+1) 14=4 then({A0 8 with dev:=1+gN l (a+2) 2,plt:=plates (gN l a 3),node:=4,con:=1+gN l (a+3) 2},a+4)
 else if gN l (a+1) 14=5 then gA5 l (a+2) (plates (gN l a 3))
 else if gN l (a+1) 14=6 then gA6 l (a+2)
 else gAt l (a+2)
theorem plates_sm (i:Int):SmPl (plates i):=by
 have hm:=modI_lt (x:=i) (n:=1000) (by omega)
 unfold plates SmPl
 simp only
 omega
theorem sact_0 (l:List Int) (a:Nat) (k:Int) (hf:Fits l) (hc:gN l (a+1) 14=0):SatG Tryz.prog tab 9 (srcC l a) [.ptO 0 0 0 0 0,I k] (srcC l (gA l a).2) (gA l a).1.av:=by
 have h1:=kplate_sat l a 3 hf ⟨by decide,by decide⟩
 have h2:=gN_sat l (a+1) 14 hf (by decide)
 have hp:=plates_sm (gN l a 3)
 have h3:=gN_sat l (a+2) 4 hf (by decide)
 have b3:=gN_lt (l:=l) (a:=a+2) (n:=4) (by decide)
 have h4:=gN_sat l (a+3) 2 hf (by decide)
 have b4:=gN_lt (l:=l) (a:=a+3) (n:=2) (by decide)
 have h5:=source_sat (1+gN l (a+2) 4) (gN l (a+3) 2) (plates (gN l a 3)) ⟨by omega,by omega⟩ ⟨by omega,by omega⟩ hp
 unfold gA
 rw[if_pos hc]
 generalize plates (gN l a 3)=p at*
 generalize gN l (a+2) 4=n3 at*
 generalize gN l (a+3) 2=n4 at*
 rw[hc] at h2
 refine uFN Tryz.func9 Tryz.ntmps9 ?_;intro w e X hC
 repeat refine uA ?_
 refine uR ?_;intro K hK
 refine callL rfl (h1) uTS uTS uTS uTS uTS ?_;refine uS ?_
 refine hK _ ?_;clear hK K
 refine uR ?_;intro K hK
 refine callL rfl (h2) uTS uTS uTS uTS uTS ?_;refine uS ?_
 refine hK _ ?_;clear hK K
 repeat first|refine uC ?_|refine uA ?_
 refine uD ?_;intro K hK
 refine callL rfl (h3) uTS uTS uTS uTS uTS ?_;refine uS ?_
 refine uH ?_
 refine callL rfl (h4) uTS uTS uTS uTS uTS ?_;refine uS ?_
 refine callF uTS (h5) uTS uTS uTS ?_;refine uS ?_
 refine uH ?_
 refine hK _ ?_;clear hK K
 refine awp_ret ?_;rw[show Tryz.f9.results.toList=[.cell 4 30] from rfl];(refine(retBs uRG rfl uTC uTC ?_ ?_);all_goals (first|refine uSC ?_|exact uXC|skip))
 rfl
theorem sact_1 (l:List Int) (a:Nat) (k:Int) (hf:Fits l) (hc:gN l (a+1) 14=1):SatG Tryz.prog tab 9 (srcC l a) [.ptO 0 0 0 0 0,I k] (srcC l (gA l a).2) (gA l a).1.av:=by
 have h1:=kplate_sat l a 3 hf ⟨by decide,by decide⟩
 have h2:=gN_sat l (a+1) 14 hf (by decide)
 have hp:=plates_sm (gN l a 3)
 unfold gA
 rw[if_neg (by omega),if_pos hc]
 generalize plates (gN l a 3)=p at*
 rw[hc] at h2
 refine uFN Tryz.func9 Tryz.ntmps9 ?_;intro w e X hC
 repeat refine uA ?_
 refine uR ?_;intro K hK
 refine callL rfl (h1) uTS uTS uTS uTS uTS ?_;refine uS ?_
 refine hK _ ?_;clear hK K
 refine uR ?_;intro K hK
 refine callL rfl (h2) uTS uTS uTS uTS uTS ?_;refine uS ?_
 refine hK _ ?_;clear hK K
 repeat first|refine uC ?_|refine uA ?_
 refine awp_ret ?_;rw[show Tryz.f9.results.toList=[.cell 4 30] from rfl];(refine(retBs uRG rfl uTC uTC ?_ ?_);all_goals (first|refine uSC ?_|exact uXC|skip))
 rfl
theorem sact_2 (l:List Int) (a:Nat) (k:Int) (hf:Fits l) (hc:gN l (a+1) 14=2):SatG Tryz.prog tab 9 (srcC l a) [.ptO 0 0 0 0 0,I k] (srcC l (gA l a).2) (gA l a).1.av:=by
 have h1:=kplate_sat l a 3 hf ⟨by decide,by decide⟩
 have h2:=gN_sat l (a+1) 14 hf (by decide)
 have hp:=plates_sm (gN l a 3)
 have h3:=gN_sat l (a+2) 3 hf (by decide)
 have b3:=gN_lt (l:=l) (a:=a+2) (n:=3) (by decide)
 have h4:=gN_sat l (a+3) 3 hf (by decide)
 have b4:=gN_lt (l:=l) (a:=a+3) (n:=3) (by decide)
 unfold gA
 rw[if_neg (by omega),if_neg (by omega),if_pos (by omega)]
 generalize plates (gN l a 3)=p at*
 generalize gN l (a+2) 3=n3 at*
 generalize gN l (a+3) 3=n4 at*
 rw[hc] at h2
 refine uFN Tryz.func9 Tryz.ntmps9 ?_;intro w e X hC
 repeat refine uA ?_
 refine uR ?_;intro K hK
 refine callL rfl (h1) uTS uTS uTS uTS uTS ?_;refine uS ?_
 refine hK _ ?_;clear hK K
 refine uR ?_;intro K hK
 refine callL rfl (h2) uTS uTS uTS uTS uTS ?_;refine uS ?_
 refine hK _ ?_;clear hK K
 repeat first|refine uC ?_|refine uA ?_
 refine uR ?_;intro K hK
 refine callL rfl (h3) uTS uTS uTS uTS uTS ?_;refine uS ?_
 refine uH ?_
 refine callL rfl (h4) uTS uTS uTS uTS uTS ?_;refine uS ?_
 refine uH ?_
 refine hK _ ?_;clear hK K
 refine awp_ret ?_;rw[show Tryz.f9.results.toList=[.cell 4 30] from rfl];(refine(retBs uRG rfl uTC uTC ?_ ?_);all_goals (first|refine uSC ?_|exact uXC|skip))
 rfl
theorem sact_3 (l:List Int) (a:Nat) (k:Int) (hf:Fits l) (hc:gN l (a+1) 14=3):SatG Tryz.prog tab 9 (srcC l a) [.ptO 0 0 0 0 0,I k] (srcC l (gA l a).2) (gA l a).1.av:=by
 have h1:=kplate_sat l a 3 hf ⟨by decide,by decide⟩
 have h2:=gN_sat l (a+1) 14 hf (by decide)
 have hp:=plates_sm (gN l a 3)
 have h3:=gN_sat l (a+2) 3 hf (by decide)
 have b3:=gN_lt (l:=l) (a:=a+2) (n:=3) (by decide)
 have h4:=gN_sat l (a+3) 3 hf (by decide)
 have b4:=gN_lt (l:=l) (a:=a+3) (n:=3) (by decide)
 unfold gA
 rw[if_neg (by omega),if_neg (by omega),if_pos (by omega)]
 generalize plates (gN l a 3)=p at*
 generalize gN l (a+2) 3=n3 at*
 generalize gN l (a+3) 3=n4 at*
 rw[hc] at h2
 refine uFN Tryz.func9 Tryz.ntmps9 ?_;intro w e X hC
 repeat refine uA ?_
 refine uR ?_;intro K hK
 refine callL rfl (h1) uTS uTS uTS uTS uTS ?_;refine uS ?_
 refine hK _ ?_;clear hK K
 refine uR ?_;intro K hK
 refine callL rfl (h2) uTS uTS uTS uTS uTS ?_;refine uS ?_
 refine hK _ ?_;clear hK K
 repeat first|refine uC ?_|refine uA ?_
 refine uR ?_;intro K hK
 refine callL rfl (h3) uTS uTS uTS uTS uTS ?_;refine uS ?_
 refine uH ?_
 refine callL rfl (h4) uTS uTS uTS uTS uTS ?_;refine uS ?_
 refine uH ?_
 refine hK _ ?_;clear hK K
 refine awp_ret ?_;rw[show Tryz.f9.results.toList=[.cell 4 30] from rfl];(refine(retBs uRG rfl uTC uTC ?_ ?_);all_goals (first|refine uSC ?_|exact uXC|skip))
 rfl
theorem sact_4 (l:List Int) (a:Nat) (k:Int) (hf:Fits l) (hc:gN l (a+1) 14=4):SatG Tryz.prog tab 9 (srcC l a) [.ptO 0 0 0 0 0,I k] (srcC l (gA l a).2) (gA l a).1.av:=by
 have h1:=kplate_sat l a 3 hf ⟨by decide,by decide⟩
 have h2:=gN_sat l (a+1) 14 hf (by decide)
 have hp:=plates_sm (gN l a 3)
 have h3:=gN_sat l (a+2) 2 hf (by decide)
 have b3:=gN_lt (l:=l) (a:=a+2) (n:=2) (by decide)
 have h4:=gN_sat l (a+3) 2 hf (by decide)
 have b4:=gN_lt (l:=l) (a:=a+3) (n:=2) (by decide)
 unfold gA
 rw[if_neg (by omega),if_neg (by omega),if_neg (by omega),if_pos hc]
 generalize plates (gN l a 3)=p at*
 generalize gN l (a+2) 2=n3 at*
 generalize gN l (a+3) 2=n4 at*
 rw[hc] at h2
 refine uFN Tryz.func9 Tryz.ntmps9 ?_;intro w e X hC
 repeat refine uA ?_
 refine uR ?_;intro K hK
 refine callL rfl (h1) uTS uTS uTS uTS uTS ?_;refine uS ?_
 refine hK _ ?_;clear hK K
 refine uR ?_;intro K hK
 refine callL rfl (h2) uTS uTS uTS uTS uTS ?_;refine uS ?_
 refine hK _ ?_;clear hK K
 repeat first|refine uC ?_|refine uA ?_
 refine uD ?_;intro K hK
 refine callL rfl (h3) uTS uTS uTS uTS uTS ?_;refine uS ?_
 refine uH ?_
 refine callL rfl (h4) uTS uTS uTS uTS uTS ?_;refine uS ?_
 refine uH ?_
 refine hK _ ?_;clear hK K
 refine awp_ret ?_;rw[show Tryz.f9.results.toList=[.cell 4 30] from rfl];(refine(retBs uRG rfl uTC uTC ?_ ?_);all_goals (first|refine uSC ?_|exact uXC|skip))
 rfl
theorem sact_50 (l:List Int) (a:Nat) (k:Int) (hf:Fits l) (hc:gN l (a+1) 14=5) (hd:gN l (gV l (a+2+4)).2 4=0):SatG Tryz.prog tab 9 (srcC l a) [.ptO 0 0 0 0 0,I k] (srcC l (gA l a).2) (gA l a).1.av:=by
 have h1:=kplate_sat l a 3 hf ⟨by decide,by decide⟩
 have h2:=gN_sat l (a+1) 14 hf (by decide)
 have hp:=plates_sm (gN l a 3)
 have h3:=gN_sat l (a+2) 2 hf (by decide)
 have b3:=gN_lt (l:=l) (a:=a+2) (n:=2) (by decide)
 have h4:=gN_sat l (a+2+1) 2 hf (by decide)
 have b4:=gN_lt (l:=l) (a:=a+2+1) (n:=2) (by decide)
 have h5:=gN_sat l (a+2+2) 2 hf (by decide)
 have b5:=gN_lt (l:=l) (a:=a+2+2) (n:=2) (by decide)
 have h6:=gN_sat l (a+2+3) 2 hf (by decide)
 have b6:=gN_lt (l:=l) (a:=a+2+3) (n:=2) (by decide)
 have h7:=flights_sat (gN l (a+2+3) 2) ⟨by omega,by omega⟩
 have h8:=gV_sat l (a+2+4) hf
 have h9:=gN_sat l (gV l (a+2+4)).2 4 hf (by decide)
 rw[hd] at h9
 unfold gA gA5
 rw[if_neg (by omega),if_neg (by omega),if_neg (by omega),if_neg (by omega),if_pos hc,if_pos hd]
 generalize plates (gN l a 3)=p at*
 generalize gN l (a+2) 2=n3 at*
 generalize gN l (a+2+1) 2=n4 at*
 generalize gN l (a+2+2) 2=n5 at*
 generalize gN l (a+2+3) 2=n6 at*
 generalize flights n6=fl at*
 generalize gV l (a+2+4)=v at*
 obtain⟨v,b⟩:=v
 simp only at hd h8 h9 ⊢
 rw[hc] at h2
 refine uFN Tryz.func9 Tryz.ntmps9 ?_;intro w e X hC
 repeat refine uA ?_
 refine uR ?_;intro K hK
 refine callL rfl (h1) uTS uTS uTS uTS uTS ?_;refine uS ?_
 refine hK _ ?_;clear hK K
 refine uR ?_;intro K hK
 refine callL rfl (h2) uTS uTS uTS uTS uTS ?_;refine uS ?_
 refine hK _ ?_;clear hK K
 repeat first|refine uC ?_|refine uA ?_
 refine uD ?_;intro K hK
 refine callL rfl (h3) uTS uTS uTS uTS uTS ?_;refine uS ?_
 refine uH ?_
 refine callL rfl (h4) uTS uTS uTS uTS uTS ?_;refine uS ?_
 refine uH ?_
 refine callL rfl (h5) uTS uTS uTS uTS uTS ?_;refine uS ?_
 refine uH ?_
 refine callL rfl (h6) uTS uTS uTS uTS uTS ?_;refine uS ?_
 refine callF uTS (h7) uTS uTS uTS ?_;refine uS ?_
 refine callP uTS (small_sat) uTS uTS uTS ?_;refine uS ?_
 refine callL rfl (h8) uTS uTS uTS uTS uTS ?_;refine uS ?_
 refine callL rfl (h9) uTS uTS uTS uTS uTS ?_;refine uS ?_
 refine uH ?_
 refine hK _ ?_;clear hK K
 refine awp_ret ?_;rw[show Tryz.f9.results.toList=[.cell 4 30] from rfl];(refine(retBs uRG rfl uTC uTC ?_ ?_);all_goals (first|refine uSC ?_|exact uXC|skip))
 rfl
theorem sact_51 (l:List Int) (a:Nat) (k:Int) (hf:Fits l) (hc:gN l (a+1) 14=5) (hd:gN l (gV l (a+2+4)).2 4=1):SatG Tryz.prog tab 9 (srcC l a) [.ptO 0 0 0 0 0,I k] (srcC l (gA l a).2) (gA l a).1.av:=by
 have h1:=kplate_sat l a 3 hf ⟨by decide,by decide⟩
 have h2:=gN_sat l (a+1) 14 hf (by decide)
 have hp:=plates_sm (gN l a 3)
 have h3:=gN_sat l (a+2) 2 hf (by decide)
 have b3:=gN_lt (l:=l) (a:=a+2) (n:=2) (by decide)
 have h4:=gN_sat l (a+2+1) 2 hf (by decide)
 have b4:=gN_lt (l:=l) (a:=a+2+1) (n:=2) (by decide)
 have h5:=gN_sat l (a+2+2) 2 hf (by decide)
 have b5:=gN_lt (l:=l) (a:=a+2+2) (n:=2) (by decide)
 have h6:=gN_sat l (a+2+3) 2 hf (by decide)
 have b6:=gN_lt (l:=l) (a:=a+2+3) (n:=2) (by decide)
 have h7:=flights_sat (gN l (a+2+3) 2) ⟨by omega,by omega⟩
 have h8:=gV_sat l (a+2+4) hf
 have h9:=gN_sat l (gV l (a+2+4)).2 4 hf (by decide)
 rw[hd] at h9
 unfold gA gA5
 rw[if_neg (by omega),if_neg (by omega),if_neg (by omega),if_neg (by omega),if_pos hc,if_neg (by omega),if_pos hd]
 generalize plates (gN l a 3)=p at*
 generalize gN l (a+2) 2=n3 at*
 generalize gN l (a+2+1) 2=n4 at*
 generalize gN l (a+2+2) 2=n5 at*
 generalize gN l (a+2+3) 2=n6 at*
 generalize flights n6=fl at*
 generalize gV l (a+2+4)=v at*
 obtain⟨v,b⟩:=v
 simp only at hd h8 h9 ⊢
 rw[hc] at h2
 refine uFN Tryz.func9 Tryz.ntmps9 ?_;intro w e X hC
 repeat refine uA ?_
 refine uR ?_;intro K hK
 refine callL rfl (h1) uTS uTS uTS uTS uTS ?_;refine uS ?_
 refine hK _ ?_;clear hK K
 refine uR ?_;intro K hK
 refine callL rfl (h2) uTS uTS uTS uTS uTS ?_;refine uS ?_
 refine hK _ ?_;clear hK K
 repeat first|refine uC ?_|refine uA ?_
 refine uD ?_;intro K hK
 refine callL rfl (h3) uTS uTS uTS uTS uTS ?_;refine uS ?_
 refine uH ?_
 refine callL rfl (h4) uTS uTS uTS uTS uTS ?_;refine uS ?_
 refine uH ?_
 refine callL rfl (h5) uTS uTS uTS uTS uTS ?_;refine uS ?_
 refine uH ?_
 refine callL rfl (h6) uTS uTS uTS uTS uTS ?_;refine uS ?_
 refine callF uTS (h7) uTS uTS uTS ?_;refine uS ?_
 refine callP uTS (small_sat) uTS uTS uTS ?_;refine uS ?_
 refine callL rfl (h8) uTS uTS uTS uTS uTS ?_;refine uS ?_
 refine callL rfl (h9) uTS uTS uTS uTS uTS ?_;refine uS ?_
 refine uH ?_
 refine hK _ ?_;clear hK K
 refine awp_ret ?_;rw[show Tryz.f9.results.toList=[.cell 4 30] from rfl];(refine(retBs uRG rfl uTC uTC ?_ ?_);all_goals (first|refine uSC ?_|exact uXC|skip))
 rfl
theorem sact_52 (l:List Int) (a:Nat) (k:Int) (hf:Fits l) (hc:gN l (a+1) 14=5) (hd:gN l (gV l (a+2+4)).2 4=2):SatG Tryz.prog tab 9 (srcC l a) [.ptO 0 0 0 0 0,I k] (srcC l (gA l a).2) (gA l a).1.av:=by
 have h1:=kplate_sat l a 3 hf ⟨by decide,by decide⟩
 have h2:=gN_sat l (a+1) 14 hf (by decide)
 have hp:=plates_sm (gN l a 3)
 have h3:=gN_sat l (a+2) 2 hf (by decide)
 have b3:=gN_lt (l:=l) (a:=a+2) (n:=2) (by decide)
 have h4:=gN_sat l (a+2+1) 2 hf (by decide)
 have b4:=gN_lt (l:=l) (a:=a+2+1) (n:=2) (by decide)
 have h5:=gN_sat l (a+2+2) 2 hf (by decide)
 have b5:=gN_lt (l:=l) (a:=a+2+2) (n:=2) (by decide)
 have h6:=gN_sat l (a+2+3) 2 hf (by decide)
 have b6:=gN_lt (l:=l) (a:=a+2+3) (n:=2) (by decide)
 have h7:=flights_sat (gN l (a+2+3) 2) ⟨by omega,by omega⟩
 have h8:=gV_sat l (a+2+4) hf
 have h9:=gN_sat l (gV l (a+2+4)).2 4 hf (by decide)
 rw[hd] at h9
 unfold gA gA5
 rw[if_neg (by omega),if_neg (by omega),if_neg (by omega),if_neg (by omega),if_pos hc,if_neg (by omega),if_neg (by omega),if_pos hd]
 generalize plates (gN l a 3)=p at*
 generalize gN l (a+2) 2=n3 at*
 generalize gN l (a+2+1) 2=n4 at*
 generalize gN l (a+2+2) 2=n5 at*
 generalize gN l (a+2+3) 2=n6 at*
 generalize flights n6=fl at*
 generalize gV l (a+2+4)=v at*
 obtain⟨v,b⟩:=v
 simp only at hd h8 h9 ⊢
 rw[hc] at h2
 refine uFN Tryz.func9 Tryz.ntmps9 ?_;intro w e X hC
 repeat refine uA ?_
 refine uR ?_;intro K hK
 refine callL rfl (h1) uTS uTS uTS uTS uTS ?_;refine uS ?_
 refine hK _ ?_;clear hK K
 refine uR ?_;intro K hK
 refine callL rfl (h2) uTS uTS uTS uTS uTS ?_;refine uS ?_
 refine hK _ ?_;clear hK K
 repeat first|refine uC ?_|refine uA ?_
 refine uD ?_;intro K hK
 refine callL rfl (h3) uTS uTS uTS uTS uTS ?_;refine uS ?_
 refine uH ?_
 refine callL rfl (h4) uTS uTS uTS uTS uTS ?_;refine uS ?_
 refine uH ?_
 refine callL rfl (h5) uTS uTS uTS uTS uTS ?_;refine uS ?_
 refine uH ?_
 refine callL rfl (h6) uTS uTS uTS uTS uTS ?_;refine uS ?_
 refine callF uTS (h7) uTS uTS uTS ?_;refine uS ?_
 refine callP uTS (small_sat) uTS uTS uTS ?_;refine uS ?_
 refine callL rfl (h8) uTS uTS uTS uTS uTS ?_;refine uS ?_
 refine callL rfl (h9) uTS uTS uTS uTS uTS ?_;refine uS ?_
 refine uH ?_
 refine hK _ ?_;clear hK K
 refine awp_ret ?_;rw[show Tryz.f9.results.toList=[.cell 4 30] from rfl];(refine(retBs uRG rfl uTC uTC ?_ ?_);all_goals (first|refine uSC ?_|exact uXC|skip))
 rfl
theorem sact_53 (l:List Int) (a:Nat) (k:Int) (hf:Fits l) (hc:gN l (a+1) 14=5) (hd:gN l (gV l (a+2+4)).2 4=3):SatG Tryz.prog tab 9 (srcC l a) [.ptO 0 0 0 0 0,I k] (srcC l (gA l a).2) (gA l a).1.av:=by
 have h1:=kplate_sat l a 3 hf ⟨by decide,by decide⟩
 have h2:=gN_sat l (a+1) 14 hf (by decide)
 have hp:=plates_sm (gN l a 3)
 have h3:=gN_sat l (a+2) 2 hf (by decide)
 have b3:=gN_lt (l:=l) (a:=a+2) (n:=2) (by decide)
 have h4:=gN_sat l (a+2+1) 2 hf (by decide)
 have b4:=gN_lt (l:=l) (a:=a+2+1) (n:=2) (by decide)
 have h5:=gN_sat l (a+2+2) 2 hf (by decide)
 have b5:=gN_lt (l:=l) (a:=a+2+2) (n:=2) (by decide)
 have h6:=gN_sat l (a+2+3) 2 hf (by decide)
 have b6:=gN_lt (l:=l) (a:=a+2+3) (n:=2) (by decide)
 have h7:=flights_sat (gN l (a+2+3) 2) ⟨by omega,by omega⟩
 have h8:=gV_sat l (a+2+4) hf
 have h9:=gN_sat l (gV l (a+2+4)).2 4 hf (by decide)
 rw[hd] at h9
 unfold gA gA5
 rw[if_neg (by omega),if_neg (by omega),if_neg (by omega),if_neg (by omega),if_pos hc,if_neg (by omega),if_neg (by omega),if_neg (by omega)]
 generalize plates (gN l a 3)=p at*
 generalize gN l (a+2) 2=n3 at*
 generalize gN l (a+2+1) 2=n4 at*
 generalize gN l (a+2+2) 2=n5 at*
 generalize gN l (a+2+3) 2=n6 at*
 generalize flights n6=fl at*
 generalize gV l (a+2+4)=v at*
 obtain⟨v,b⟩:=v
 simp only at hd h8 h9 ⊢
 rw[hc] at h2
 refine uFN Tryz.func9 Tryz.ntmps9 ?_;intro w e X hC
 repeat refine uA ?_
 refine uR ?_;intro K hK
 refine callL rfl (h1) uTS uTS uTS uTS uTS ?_;refine uS ?_
 refine hK _ ?_;clear hK K
 refine uR ?_;intro K hK
 refine callL rfl (h2) uTS uTS uTS uTS uTS ?_;refine uS ?_
 refine hK _ ?_;clear hK K
 repeat first|refine uC ?_|refine uA ?_
 refine uD ?_;intro K hK
 refine callL rfl (h3) uTS uTS uTS uTS uTS ?_;refine uS ?_
 refine uH ?_
 refine callL rfl (h4) uTS uTS uTS uTS uTS ?_;refine uS ?_
 refine uH ?_
 refine callL rfl (h5) uTS uTS uTS uTS uTS ?_;refine uS ?_
 refine uH ?_
 refine callL rfl (h6) uTS uTS uTS uTS uTS ?_;refine uS ?_
 refine callF uTS (h7) uTS uTS uTS ?_;refine uS ?_
 refine callP uTS (small_sat) uTS uTS uTS ?_;refine uS ?_
 refine callL rfl (h8) uTS uTS uTS uTS uTS ?_;refine uS ?_
 refine callL rfl (h9) uTS uTS uTS uTS uTS ?_;refine uS ?_
 refine uH ?_
 refine hK _ ?_;clear hK K
 refine awp_ret ?_;rw[show Tryz.f9.results.toList=[.cell 4 30] from rfl];(refine(retBs uRG rfl uTC uTC ?_ ?_);all_goals (first|refine uSC ?_|exact uXC|skip))
 rfl
theorem sact_60 (l:List Int) (a:Nat) (k:Int) (hf:Fits l) (hc:gN l (a+1) 14=6) (hd:gN l (a+2+6) 6=0):SatG Tryz.prog tab 9 (srcC l a) [.ptO 0 0 0 0 0,I k] (srcC l (gA l a).2) (gA l a).1.av:=by
 have h1:=kplate_sat l a 3 hf ⟨by decide,by decide⟩
 have h2:=gN_sat l (a+1) 14 hf (by decide)
 have hp:=plates_sm (gN l a 3)
 have h3:=gN_sat l (a+2) 2 hf (by decide)
 have b3:=gN_lt (l:=l) (a:=a+2) (n:=2) (by decide)
 have h4:=gN_sat l (a+2+1) 2 hf (by decide)
 have b4:=gN_lt (l:=l) (a:=a+2+1) (n:=2) (by decide)
 have h5:=gN_sat l (a+2+2) 6 hf (by decide)
 have b5:=gN_lt (l:=l) (a:=a+2+2) (n:=6) (by decide)
 have h6:=gN_sat l (a+2+3) 6 hf (by decide)
 have b6:=gN_lt (l:=l) (a:=a+2+3) (n:=6) (by decide)
 have h7:=gN_sat l (a+2+4) 4 hf (by decide)
 have b7:=gN_lt (l:=l) (a:=a+2+4) (n:=4) (by decide)
 have h8:=gN_sat l (a+2+5) 2 hf (by decide)
 have b8:=gN_lt (l:=l) (a:=a+2+5) (n:=2) (by decide)
 have h9:=boarded_sat (1+gN l (a+2+4) 4) (gN l (a+2+5) 2) ⟨by omega,by omega⟩ ⟨by omega,by omega⟩
 have h10:=gN_sat l (a+2+6) 6 hf (by decide)
 rw[hd] at h10
 unfold gA gA6
 rw[if_neg (by omega),if_neg (by omega),if_neg (by omega),if_neg (by omega),if_neg (by omega),if_pos hc,if_pos hd]
 generalize plates (gN l a 3)=p at*
 generalize gN l (a+2) 2=n3 at*
 generalize gN l (a+2+1) 2=n4 at*
 generalize gN l (a+2+2) 6=n5 at*
 generalize gN l (a+2+3) 6=n6 at*
 generalize gN l (a+2+4) 4=n7 at*
 generalize gN l (a+2+5) 2=n8 at*
 rw[hc] at h2
 refine uFN Tryz.func9 Tryz.ntmps9 ?_;intro w e X hC
 repeat refine uA ?_
 refine uR ?_;intro K hK
 refine callL rfl (h1) uTS uTS uTS uTS uTS ?_;refine uS ?_
 refine hK _ ?_;clear hK K
 refine uR ?_;intro K hK
 refine callL rfl (h2) uTS uTS uTS uTS uTS ?_;refine uS ?_
 refine hK _ ?_;clear hK K
 repeat first|refine uC ?_|refine uA ?_
 refine uR ?_;intro K hK
 refine callL rfl (h3) uTS uTS uTS uTS uTS ?_;refine uS ?_
 refine uH ?_
 refine callL rfl (h4) uTS uTS uTS uTS uTS ?_;refine uS ?_
 refine uH ?_
 refine callL rfl (h5) uTS uTS uTS uTS uTS ?_;refine uS ?_
 refine callL rfl (h6) uTS uTS uTS uTS uTS ?_;refine uS ?_
 refine callL rfl (h7) uTS uTS uTS uTS uTS ?_;refine uS ?_
 refine uH ?_
 refine callL rfl (h8) uTS uTS uTS uTS uTS ?_;refine uS ?_
 refine callF uTS (h9) uTS uTS uTS ?_;refine uS ?_
 refine callL rfl (h10) uTS uTS uTS uTS uTS ?_;refine uS ?_
 refine uH ?_
 refine hK _ ?_;clear hK K
 refine awp_ret ?_;rw[show Tryz.f9.results.toList=[.cell 4 30] from rfl];(refine(retBs uRG rfl uTC uTC ?_ ?_);all_goals (first|refine uSC ?_|exact uXC|skip))
 rfl
theorem sact_61 (l:List Int) (a:Nat) (k:Int) (hf:Fits l) (hc:gN l (a+1) 14=6) (hd:gN l (a+2+6) 6=1):SatG Tryz.prog tab 9 (srcC l a) [.ptO 0 0 0 0 0,I k] (srcC l (gA l a).2) (gA l a).1.av:=by
 have h1:=kplate_sat l a 3 hf ⟨by decide,by decide⟩
 have h2:=gN_sat l (a+1) 14 hf (by decide)
 have hp:=plates_sm (gN l a 3)
 have h3:=gN_sat l (a+2) 2 hf (by decide)
 have b3:=gN_lt (l:=l) (a:=a+2) (n:=2) (by decide)
 have h4:=gN_sat l (a+2+1) 2 hf (by decide)
 have b4:=gN_lt (l:=l) (a:=a+2+1) (n:=2) (by decide)
 have h5:=gN_sat l (a+2+2) 6 hf (by decide)
 have b5:=gN_lt (l:=l) (a:=a+2+2) (n:=6) (by decide)
 have h6:=gN_sat l (a+2+3) 6 hf (by decide)
 have b6:=gN_lt (l:=l) (a:=a+2+3) (n:=6) (by decide)
 have h7:=gN_sat l (a+2+4) 4 hf (by decide)
 have b7:=gN_lt (l:=l) (a:=a+2+4) (n:=4) (by decide)
 have h8:=gN_sat l (a+2+5) 2 hf (by decide)
 have b8:=gN_lt (l:=l) (a:=a+2+5) (n:=2) (by decide)
 have h9:=boarded_sat (1+gN l (a+2+4) 4) (gN l (a+2+5) 2) ⟨by omega,by omega⟩ ⟨by omega,by omega⟩
 have h10:=gN_sat l (a+2+6) 6 hf (by decide)
 rw[hd] at h10
 unfold gA gA6
 rw[if_neg (by omega),if_neg (by omega),if_neg (by omega),if_neg (by omega),if_neg (by omega),if_pos hc,if_neg (by omega),if_pos hd]
 generalize plates (gN l a 3)=p at*
 generalize gN l (a+2) 2=n3 at*
 generalize gN l (a+2+1) 2=n4 at*
 generalize gN l (a+2+2) 6=n5 at*
 generalize gN l (a+2+3) 6=n6 at*
 generalize gN l (a+2+4) 4=n7 at*
 generalize gN l (a+2+5) 2=n8 at*
 rw[hc] at h2
 refine uFN Tryz.func9 Tryz.ntmps9 ?_;intro w e X hC
 repeat refine uA ?_
 refine uR ?_;intro K hK
 refine callL rfl (h1) uTS uTS uTS uTS uTS ?_;refine uS ?_
 refine hK _ ?_;clear hK K
 refine uR ?_;intro K hK
 refine callL rfl (h2) uTS uTS uTS uTS uTS ?_;refine uS ?_
 refine hK _ ?_;clear hK K
 repeat first|refine uC ?_|refine uA ?_
 refine uR ?_;intro K hK
 refine callL rfl (h3) uTS uTS uTS uTS uTS ?_;refine uS ?_
 refine uH ?_
 refine callL rfl (h4) uTS uTS uTS uTS uTS ?_;refine uS ?_
 refine uH ?_
 refine callL rfl (h5) uTS uTS uTS uTS uTS ?_;refine uS ?_
 refine callL rfl (h6) uTS uTS uTS uTS uTS ?_;refine uS ?_
 refine callL rfl (h7) uTS uTS uTS uTS uTS ?_;refine uS ?_
 refine uH ?_
 refine callL rfl (h8) uTS uTS uTS uTS uTS ?_;refine uS ?_
 refine callF uTS (h9) uTS uTS uTS ?_;refine uS ?_
 refine callL rfl (h10) uTS uTS uTS uTS uTS ?_;refine uS ?_
 refine uH ?_
 refine hK _ ?_;clear hK K
 refine awp_ret ?_;rw[show Tryz.f9.results.toList=[.cell 4 30] from rfl];(refine(retBs uRG rfl uTC uTC ?_ ?_);all_goals (first|refine uSC ?_|exact uXC|skip))
 rfl
theorem sact_62 (l:List Int) (a:Nat) (k:Int) (hf:Fits l) (hc:gN l (a+1) 14=6) (hd:gN l (a+2+6) 6=2):SatG Tryz.prog tab 9 (srcC l a) [.ptO 0 0 0 0 0,I k] (srcC l (gA l a).2) (gA l a).1.av:=by
 have h1:=kplate_sat l a 3 hf ⟨by decide,by decide⟩
 have h2:=gN_sat l (a+1) 14 hf (by decide)
 have hp:=plates_sm (gN l a 3)
 have h3:=gN_sat l (a+2) 2 hf (by decide)
 have b3:=gN_lt (l:=l) (a:=a+2) (n:=2) (by decide)
 have h4:=gN_sat l (a+2+1) 2 hf (by decide)
 have b4:=gN_lt (l:=l) (a:=a+2+1) (n:=2) (by decide)
 have h5:=gN_sat l (a+2+2) 6 hf (by decide)
 have b5:=gN_lt (l:=l) (a:=a+2+2) (n:=6) (by decide)
 have h6:=gN_sat l (a+2+3) 6 hf (by decide)
 have b6:=gN_lt (l:=l) (a:=a+2+3) (n:=6) (by decide)
 have h7:=gN_sat l (a+2+4) 4 hf (by decide)
 have b7:=gN_lt (l:=l) (a:=a+2+4) (n:=4) (by decide)
 have h8:=gN_sat l (a+2+5) 2 hf (by decide)
 have b8:=gN_lt (l:=l) (a:=a+2+5) (n:=2) (by decide)
 have h9:=boarded_sat (1+gN l (a+2+4) 4) (gN l (a+2+5) 2) ⟨by omega,by omega⟩ ⟨by omega,by omega⟩
 have h10:=gN_sat l (a+2+6) 6 hf (by decide)
 rw[hd] at h10
 unfold gA gA6
 rw[if_neg (by omega),if_neg (by omega),if_neg (by omega),if_neg (by omega),if_neg (by omega),if_pos hc,if_neg (by omega),if_neg (by omega),if_pos hd]
 generalize plates (gN l a 3)=p at*
 generalize gN l (a+2) 2=n3 at*
 generalize gN l (a+2+1) 2=n4 at*
 generalize gN l (a+2+2) 6=n5 at*
 generalize gN l (a+2+3) 6=n6 at*
 generalize gN l (a+2+4) 4=n7 at*
 generalize gN l (a+2+5) 2=n8 at*
 rw[hc] at h2
 refine uFN Tryz.func9 Tryz.ntmps9 ?_;intro w e X hC
 repeat refine uA ?_
 refine uR ?_;intro K hK
 refine callL rfl (h1) uTS uTS uTS uTS uTS ?_;refine uS ?_
 refine hK _ ?_;clear hK K
 refine uR ?_;intro K hK
 refine callL rfl (h2) uTS uTS uTS uTS uTS ?_;refine uS ?_
 refine hK _ ?_;clear hK K
 repeat first|refine uC ?_|refine uA ?_
 refine uR ?_;intro K hK
 refine callL rfl (h3) uTS uTS uTS uTS uTS ?_;refine uS ?_
 refine uH ?_
 refine callL rfl (h4) uTS uTS uTS uTS uTS ?_;refine uS ?_
 refine uH ?_
 refine callL rfl (h5) uTS uTS uTS uTS uTS ?_;refine uS ?_
 refine callL rfl (h6) uTS uTS uTS uTS uTS ?_;refine uS ?_
 refine callL rfl (h7) uTS uTS uTS uTS uTS ?_;refine uS ?_
 refine uH ?_
 refine callL rfl (h8) uTS uTS uTS uTS uTS ?_;refine uS ?_
 refine callF uTS (h9) uTS uTS uTS ?_;refine uS ?_
 refine callL rfl (h10) uTS uTS uTS uTS uTS ?_;refine uS ?_
 refine uH ?_
 refine hK _ ?_;clear hK K
 refine awp_ret ?_;rw[show Tryz.f9.results.toList=[.cell 4 30] from rfl];(refine(retBs uRG rfl uTC uTC ?_ ?_);all_goals (first|refine uSC ?_|exact uXC|skip))
 rfl
theorem sact_63 (l:List Int) (a:Nat) (k:Int) (hf:Fits l) (hc:gN l (a+1) 14=6) (hd:gN l (a+2+6) 6=3):SatG Tryz.prog tab 9 (srcC l a) [.ptO 0 0 0 0 0,I k] (srcC l (gA l a).2) (gA l a).1.av:=by
 have h1:=kplate_sat l a 3 hf ⟨by decide,by decide⟩
 have h2:=gN_sat l (a+1) 14 hf (by decide)
 have hp:=plates_sm (gN l a 3)
 have h3:=gN_sat l (a+2) 2 hf (by decide)
 have b3:=gN_lt (l:=l) (a:=a+2) (n:=2) (by decide)
 have h4:=gN_sat l (a+2+1) 2 hf (by decide)
 have b4:=gN_lt (l:=l) (a:=a+2+1) (n:=2) (by decide)
 have h5:=gN_sat l (a+2+2) 6 hf (by decide)
 have b5:=gN_lt (l:=l) (a:=a+2+2) (n:=6) (by decide)
 have h6:=gN_sat l (a+2+3) 6 hf (by decide)
 have b6:=gN_lt (l:=l) (a:=a+2+3) (n:=6) (by decide)
 have h7:=gN_sat l (a+2+4) 4 hf (by decide)
 have b7:=gN_lt (l:=l) (a:=a+2+4) (n:=4) (by decide)
 have h8:=gN_sat l (a+2+5) 2 hf (by decide)
 have b8:=gN_lt (l:=l) (a:=a+2+5) (n:=2) (by decide)
 have h9:=boarded_sat (1+gN l (a+2+4) 4) (gN l (a+2+5) 2) ⟨by omega,by omega⟩ ⟨by omega,by omega⟩
 have h10:=gN_sat l (a+2+6) 6 hf (by decide)
 rw[hd] at h10
 unfold gA gA6
 rw[if_neg (by omega),if_neg (by omega),if_neg (by omega),if_neg (by omega),if_neg (by omega),if_pos hc,if_neg (by omega),if_neg (by omega),if_neg (by omega),if_pos hd]
 generalize plates (gN l a 3)=p at*
 generalize gN l (a+2) 2=n3 at*
 generalize gN l (a+2+1) 2=n4 at*
 generalize gN l (a+2+2) 6=n5 at*
 generalize gN l (a+2+3) 6=n6 at*
 generalize gN l (a+2+4) 4=n7 at*
 generalize gN l (a+2+5) 2=n8 at*
 rw[hc] at h2
 refine uFN Tryz.func9 Tryz.ntmps9 ?_;intro w e X hC
 repeat refine uA ?_
 refine uR ?_;intro K hK
 refine callL rfl (h1) uTS uTS uTS uTS uTS ?_;refine uS ?_
 refine hK _ ?_;clear hK K
 refine uR ?_;intro K hK
 refine callL rfl (h2) uTS uTS uTS uTS uTS ?_;refine uS ?_
 refine hK _ ?_;clear hK K
 repeat first|refine uC ?_|refine uA ?_
 refine uR ?_;intro K hK
 refine callL rfl (h3) uTS uTS uTS uTS uTS ?_;refine uS ?_
 refine uH ?_
 refine callL rfl (h4) uTS uTS uTS uTS uTS ?_;refine uS ?_
 refine uH ?_
 refine callL rfl (h5) uTS uTS uTS uTS uTS ?_;refine uS ?_
 refine callL rfl (h6) uTS uTS uTS uTS uTS ?_;refine uS ?_
 refine callL rfl (h7) uTS uTS uTS uTS uTS ?_;refine uS ?_
 refine uH ?_
 refine callL rfl (h8) uTS uTS uTS uTS uTS ?_;refine uS ?_
 refine callF uTS (h9) uTS uTS uTS ?_;refine uS ?_
 refine callL rfl (h10) uTS uTS uTS uTS uTS ?_;refine uS ?_
 refine uH ?_
 refine hK _ ?_;clear hK K
 refine awp_ret ?_;rw[show Tryz.f9.results.toList=[.cell 4 30] from rfl];(refine(retBs uRG rfl uTC uTC ?_ ?_);all_goals (first|refine uSC ?_|exact uXC|skip))
 rfl
theorem sact_64 (l:List Int) (a:Nat) (k:Int) (hf:Fits l) (hc:gN l (a+1) 14=6) (hd:gN l (a+2+6) 6=4):SatG Tryz.prog tab 9 (srcC l a) [.ptO 0 0 0 0 0,I k] (srcC l (gA l a).2) (gA l a).1.av:=by
 have h1:=kplate_sat l a 3 hf ⟨by decide,by decide⟩
 have h2:=gN_sat l (a+1) 14 hf (by decide)
 have hp:=plates_sm (gN l a 3)
 have h3:=gN_sat l (a+2) 2 hf (by decide)
 have b3:=gN_lt (l:=l) (a:=a+2) (n:=2) (by decide)
 have h4:=gN_sat l (a+2+1) 2 hf (by decide)
 have b4:=gN_lt (l:=l) (a:=a+2+1) (n:=2) (by decide)
 have h5:=gN_sat l (a+2+2) 6 hf (by decide)
 have b5:=gN_lt (l:=l) (a:=a+2+2) (n:=6) (by decide)
 have h6:=gN_sat l (a+2+3) 6 hf (by decide)
 have b6:=gN_lt (l:=l) (a:=a+2+3) (n:=6) (by decide)
 have h7:=gN_sat l (a+2+4) 4 hf (by decide)
 have b7:=gN_lt (l:=l) (a:=a+2+4) (n:=4) (by decide)
 have h8:=gN_sat l (a+2+5) 2 hf (by decide)
 have b8:=gN_lt (l:=l) (a:=a+2+5) (n:=2) (by decide)
 have h9:=boarded_sat (1+gN l (a+2+4) 4) (gN l (a+2+5) 2) ⟨by omega,by omega⟩ ⟨by omega,by omega⟩
 have h10:=gN_sat l (a+2+6) 6 hf (by decide)
 rw[hd] at h10
 unfold gA gA6
 rw[if_neg (by omega),if_neg (by omega),if_neg (by omega),if_neg (by omega),if_neg (by omega),if_pos hc,if_neg (by omega),if_neg (by omega),if_neg (by omega),if_neg (by omega),if_pos hd]
 generalize plates (gN l a 3)=p at*
 generalize gN l (a+2) 2=n3 at*
 generalize gN l (a+2+1) 2=n4 at*
 generalize gN l (a+2+2) 6=n5 at*
 generalize gN l (a+2+3) 6=n6 at*
 generalize gN l (a+2+4) 4=n7 at*
 generalize gN l (a+2+5) 2=n8 at*
 rw[hc] at h2
 refine uFN Tryz.func9 Tryz.ntmps9 ?_;intro w e X hC
 repeat refine uA ?_
 refine uR ?_;intro K hK
 refine callL rfl (h1) uTS uTS uTS uTS uTS ?_;refine uS ?_
 refine hK _ ?_;clear hK K
 refine uR ?_;intro K hK
 refine callL rfl (h2) uTS uTS uTS uTS uTS ?_;refine uS ?_
 refine hK _ ?_;clear hK K
 repeat first|refine uC ?_|refine uA ?_
 refine uR ?_;intro K hK
 refine callL rfl (h3) uTS uTS uTS uTS uTS ?_;refine uS ?_
 refine uH ?_
 refine callL rfl (h4) uTS uTS uTS uTS uTS ?_;refine uS ?_
 refine uH ?_
 refine callL rfl (h5) uTS uTS uTS uTS uTS ?_;refine uS ?_
 refine callL rfl (h6) uTS uTS uTS uTS uTS ?_;refine uS ?_
 refine callL rfl (h7) uTS uTS uTS uTS uTS ?_;refine uS ?_
 refine uH ?_
 refine callL rfl (h8) uTS uTS uTS uTS uTS ?_;refine uS ?_
 refine callF uTS (h9) uTS uTS uTS ?_;refine uS ?_
 refine callL rfl (h10) uTS uTS uTS uTS uTS ?_;refine uS ?_
 refine uH ?_
 refine hK _ ?_;clear hK K
 refine awp_ret ?_;rw[show Tryz.f9.results.toList=[.cell 4 30] from rfl];(refine(retBs uRG rfl uTC uTC ?_ ?_);all_goals (first|refine uSC ?_|exact uXC|skip))
 rfl
theorem sact_65 (l:List Int) (a:Nat) (k:Int) (hf:Fits l) (hc:gN l (a+1) 14=6) (hd:gN l (a+2+6) 6=5):SatG Tryz.prog tab 9 (srcC l a) [.ptO 0 0 0 0 0,I k] (srcC l (gA l a).2) (gA l a).1.av:=by
 have h1:=kplate_sat l a 3 hf ⟨by decide,by decide⟩
 have h2:=gN_sat l (a+1) 14 hf (by decide)
 have hp:=plates_sm (gN l a 3)
 have h3:=gN_sat l (a+2) 2 hf (by decide)
 have b3:=gN_lt (l:=l) (a:=a+2) (n:=2) (by decide)
 have h4:=gN_sat l (a+2+1) 2 hf (by decide)
 have b4:=gN_lt (l:=l) (a:=a+2+1) (n:=2) (by decide)
 have h5:=gN_sat l (a+2+2) 6 hf (by decide)
 have b5:=gN_lt (l:=l) (a:=a+2+2) (n:=6) (by decide)
 have h6:=gN_sat l (a+2+3) 6 hf (by decide)
 have b6:=gN_lt (l:=l) (a:=a+2+3) (n:=6) (by decide)
 have h7:=gN_sat l (a+2+4) 4 hf (by decide)
 have b7:=gN_lt (l:=l) (a:=a+2+4) (n:=4) (by decide)
 have h8:=gN_sat l (a+2+5) 2 hf (by decide)
 have b8:=gN_lt (l:=l) (a:=a+2+5) (n:=2) (by decide)
 have h9:=boarded_sat (1+gN l (a+2+4) 4) (gN l (a+2+5) 2) ⟨by omega,by omega⟩ ⟨by omega,by omega⟩
 have h10:=gN_sat l (a+2+6) 6 hf (by decide)
 rw[hd] at h10
 unfold gA gA6
 rw[if_neg (by omega),if_neg (by omega),if_neg (by omega),if_neg (by omega),if_neg (by omega),if_pos hc,if_neg (by omega),if_neg (by omega),if_neg (by omega),if_neg (by omega),if_neg (by omega)]
 generalize plates (gN l a 3)=p at*
 generalize gN l (a+2) 2=n3 at*
 generalize gN l (a+2+1) 2=n4 at*
 generalize gN l (a+2+2) 6=n5 at*
 generalize gN l (a+2+3) 6=n6 at*
 generalize gN l (a+2+4) 4=n7 at*
 generalize gN l (a+2+5) 2=n8 at*
 rw[hc] at h2
 refine uFN Tryz.func9 Tryz.ntmps9 ?_;intro w e X hC
 repeat refine uA ?_
 refine uR ?_;intro K hK
 refine callL rfl (h1) uTS uTS uTS uTS uTS ?_;refine uS ?_
 refine hK _ ?_;clear hK K
 refine uR ?_;intro K hK
 refine callL rfl (h2) uTS uTS uTS uTS uTS ?_;refine uS ?_
 refine hK _ ?_;clear hK K
 repeat first|refine uC ?_|refine uA ?_
 refine uR ?_;intro K hK
 refine callL rfl (h3) uTS uTS uTS uTS uTS ?_;refine uS ?_
 refine uH ?_
 refine callL rfl (h4) uTS uTS uTS uTS uTS ?_;refine uS ?_
 refine uH ?_
 refine callL rfl (h5) uTS uTS uTS uTS uTS ?_;refine uS ?_
 refine callL rfl (h6) uTS uTS uTS uTS uTS ?_;refine uS ?_
 refine callL rfl (h7) uTS uTS uTS uTS uTS ?_;refine uS ?_
 refine uH ?_
 refine callL rfl (h8) uTS uTS uTS uTS uTS ?_;refine uS ?_
 refine callF uTS (h9) uTS uTS uTS ?_;refine uS ?_
 refine callL rfl (h10) uTS uTS uTS uTS uTS ?_;refine uS ?_
 refine uH ?_
 refine hK _ ?_;clear hK K
 refine awp_ret ?_;rw[show Tryz.f9.results.toList=[.cell 4 30] from rfl];(refine(retBs uRG rfl uTC uTC ?_ ?_);all_goals (first|refine uSC ?_|exact uXC|skip))
 rfl
open Go.Scr
theorem sact_t (l:List Int) (a:Nat) (k:Int) (hf:Fits l) (hc:7<=gN l (a+1) 14):SatG Tryz.prog tab 9 (srcC l a) [.ptO 0 0 0 0 0,I k] (srcC l (gA l a).2) (gA l a).1.av:=by
 have h1:=kplate_sat l a 3 hf ⟨by decide,by decide⟩
 have h2:=gN_sat l (a+1) 14 hf (by decide)
 have h3:=gN_sat l (a+2) 12 hf (by decide)
 have h4:=gN_sat l (a+2+1) 8 hf (by decide)
 have h5:=gN_sat l (a+2+1+1) 2 hf (by decide)
 have b5:=gN_lt (l:=l) (a:=a+2+1+1) (n:=2) (by decide)
 have h6:=gN_sat l (a+2+1+2) 4 hf (by decide)
 have b6:=gN_lt (l:=l) (a:=a+2+1+2) (n:=4) (by decide)
 unfold gA gAt
 rw[if_neg (by omega),if_neg (by omega),if_neg (by omega),if_neg (by omega),if_neg (by omega),if_neg (by omega)]
 have e0:=uDf (gN l (a+1) 14=0)
 have e1:=uDf (gN l (a+1) 14=1)
 have e2:=uDf (gN l (a+1) 14=2)
 have e3:=uDf (gN l (a+1) 14=3)
 have e4:=uDf (gN l (a+1) 14=4)
 have e5:=uDf (gN l (a+1) 14=5)
 have e6:=uDf (gN l (a+1) 14=6)
 generalize gN l (a+1) 14=c at*
 generalize plates (gN l a 3)=p at*
 generalize gN l (a+2) 12=n3 at*
 refine uFN Tryz.func9 Tryz.ntmps9 ?_;intro w e X hC
 repeat refine uA ?_
 refine uR ?_;intro K hK
 refine callL rfl (h1) uTS uTS uTS uTS uTS ?_;refine uS ?_
 refine hK _ ?_;clear hK K
 refine uR ?_;intro K hK
 refine callL rfl (h2) uTS uTS uTS uTS uTS ?_;refine uS ?_
 refine hK _ ?_;clear hK K
 repeat first|refine uC ?_|refine uA1 (uI @e0 (uI @e1 (uI @e2 (uI @e3 (uI @e4 (uI @e5 @e6)))))) ?_
 refine uR ?_;intro K hK
 refine callL rfl (h3) uTS uTS uTS uTS uTS ?_;refine uS ?_
 refine hK _ ?_;clear hK K
 refine awp_seq ?_
 refine awp_merge (fun q:Nat=>⟨[(0, .ptO 0 0 0 0 0),(4, .ptO 104 1 0 0 0),(6, .ptO 106 26 0 0 0)],(106,some (26, .box [I 1, .sl (flaws (gMv l (a+2+1)).1) false, .sl [] true,B (decide (n3=11)),I 0,I 0,I 0,I 0,I 0,B false, .lit (.string .empty),I 0,I 0, .lit (.string .empty),I 0, .lit (.string .empty),I 0,I 0,I 0, .lit (.string .empty),I 0, .lit (.string .empty),I 0]))::(104,some (1, .box [I 0, .sl [] true, .sl [] true,B false,I 0,I 0,I 0,I 0,I 0,B false, .lit (.string .empty),I 0,I 0, .lit (.string .empty),I 0, .lit (.string .empty),I 0,I 0,I 0, .lit (.string .empty),I 0, .lit (.string .empty),I 0]))::srcC l (gMv l (a+2+1)).2,q⟩) (fun _=>True) ?_ ?_
 ·unfold gMv
  generalize gN l (a+2+1) 8=n4 at*
  generalize gN l (a+2+1+1) 2=n5 at*
  generalize gN l (a+2+1+2) 4=n6 at*
  refine uR ?_;intro K hK
  refine callL rfl (h4) uTS uTS uTS uTS uTS ?_;refine uS ?_
  refine hK _ ?_;clear hK K
  refine uW ?_;refine condP _ rfl (fun c0=>?_) (fun c0=>?_)
  ·rw[if_pos c0]
   refine uR ?_;intro K hK
   refine callL rfl (h5) uTS uTS uTS uTS uTS ?_;refine uS ?_
   refine uH ?_
   refine callL rfl (h6) uTS uTS uTS uTS uTS ?_;refine uS ?_
   refine uH ?_
   refine hK _ ?_;clear hK K
   refine uW ?_
   refine⟨_,trivial,uKF⟩
  ·rw[if_neg c0]
   refine uW ?_
   refine⟨_,trivial,uKF⟩
 ·rintro q -
  generalize gMv l (a+2+1)=v at*
  obtain⟨mv,b⟩:=v
  simp only
  have h7:=gN_sat l b 8 hf (by decide)
  have h8:=gP_sat l (b+1) [3,5,6] hf (by decide) (by decide)
  have h9:=gN_sat l (b+2) 10 hf (by decide)
  refine awp_seq ?_
  refine awp_merge (fun q:Nat=>⟨[(0, .ptO 0 0 0 0 0),(4, .ptO 104 1 0 0 0),(6, .ptO 106 26 0 0 0)],(106,some (26, .box [I 1, .sl (flaws mv) false, .sl (flaws (gGl l b).1) false,B (decide (n3=11)),I 0,I 0,I 0,I 0,I 0,B false, .lit (.string .empty),I 0,I 0, .lit (.string .empty),I 0, .lit (.string .empty),I 0,I 0,I 0, .lit (.string .empty),I 0, .lit (.string .empty),I 0]))::(104,some (1, .box [I 0, .sl [] true, .sl [] true,B false,I 0,I 0,I 0,I 0,I 0,B false, .lit (.string .empty),I 0,I 0, .lit (.string .empty),I 0, .lit (.string .empty),I 0,I 0,I 0, .lit (.string .empty),I 0, .lit (.string .empty),I 0]))::srcC l (gGl l b).2,q⟩) (fun _=>True) ?_ ?_
  ·unfold gGl
   generalize gN l b 8=n7 at*
   generalize gP l (b+1) [3,5,6]=n8 at*
   generalize gN l (b+2) 10=n9 at*
   refine uR ?_;intro K hK
   refine callL rfl (h7) uTS uTS uTS uTS uTS ?_;refine uS ?_
   refine hK _ ?_;clear hK K
   refine uW ?_;refine condP _ rfl (fun c0=>?_) (fun c0=>?_)
   ·rw[if_pos c0]
    refine uR ?_;intro K hK
    refine callL rfl (h8) uTS uTS uTS uTS uTS ?_;refine uS ?_
    refine callL rfl (h9) uTS uTS uTS uTS uTS ?_;refine uS ?_
    refine uH ?_
    refine hK _ ?_;clear hK K
    refine uW ?_
    refine⟨_,trivial,uKF⟩
   ·rw[if_neg c0]
    refine uW ?_
    refine⟨_,trivial,uKF⟩
  ·rintro q -
   generalize gGl l b=v at*
   obtain⟨gl,b'⟩:=v
   simp only
   repeat refine uA ?_
   refine awp_ret ?_;rw[show Tryz.f9.results.toList=[.cell 4 30] from rfl];(refine(retBs uRG rfl uTC uTC ?_ ?_);all_goals (first|refine uSC ?_|exact uXC|skip))
   rfl
theorem gA_sat (l:List Int) (a:Nat) (k:Int) (hf:Fits l):SatG Tryz.prog tab 9 (srcC l a) [.ptO 0 0 0 0 0,I k] (srcC l (gA l a).2) (gA l a).1.av:=by
 have b:=gN_lt (l:=l) (a:=a+1) (n:=14) (by decide)
 by_cases c0:gN l (a+1) 14=0
 ·exact sact_0 l a k hf c0
 by_cases c1:gN l (a+1) 14=1
 ·exact sact_1 l a k hf c1
 by_cases c2:gN l (a+1) 14=2
 ·exact sact_2 l a k hf c2
 by_cases c3:gN l (a+1) 14=3
 ·exact sact_3 l a k hf c3
 by_cases c4:gN l (a+1) 14=4
 ·exact sact_4 l a k hf c4
 by_cases c5:gN l (a+1) 14=5
 ·have b5:=gN_lt (l:=l) (a:=(gV l (a+2+4)).2) (n:=4) (by decide)
  by_cases d0:gN l (gV l (a+2+4)).2 4=0
  ·exact sact_50 l a k hf c5 d0
  by_cases d1:gN l (gV l (a+2+4)).2 4=1
  ·exact sact_51 l a k hf c5 d1
  by_cases d2:gN l (gV l (a+2+4)).2 4=2
  ·exact sact_52 l a k hf c5 d2
  exact sact_53 l a k hf c5 (by omega)
 by_cases c6:gN l (a+1) 14=6
 ·have b6:=gN_lt (l:=l) (a:=a+2+6) (n:=6) (by decide)
  by_cases d0:gN l (a+2+6) 6=0
  ·exact sact_60 l a k hf c6 d0
  by_cases d1:gN l (a+2+6) 6=1
  ·exact sact_61 l a k hf c6 d1
  by_cases d2:gN l (a+2+6) 6=2
  ·exact sact_62 l a k hf c6 d2
  by_cases d3:gN l (a+2+6) 6=3
  ·exact sact_63 l a k hf c6 d3
  by_cases d4:gN l (a+2+6) 6=4
  ·exact sact_64 l a k hf c6 d4
  exact sact_65 l a k hf c6 (by omega)
 exact sact_t l a k hf (by omega)
structure SmQ (x:Acx):Prop where
 mv:x.mv.length<=1
 gl:x.gl.length<=1
 tx:x.txt.length<=200
 sp:(32:UInt8)∉x.txt
 rc:x.rev.flt.car.length<=2
 rs:x.rev.flt.suf.length<=2
 fc:x.flt.car.length<=2
 fs:x.flt.suf.length<=2
theorem dgs_no:∀(k:Nat) (x n:Int) (s:Bs),(32:UInt8)∉s->(32:UInt8)∉dgs k x n s
 |0,_,_,s,h=>h
 |k+1,x,n,s,h=>by
  unfold dgs
  split
  ·refine dgs_no k _ n _ fun hm=>?_
   rcases List.mem_cons.1 hm with hm|hm
   ·have h2:=congrArg UInt8.toNat hm
    rw[UInt8.toNat_ofNat'] at h2
    have h3:(32:UInt8).toNat=32:=rfl
    omega
   ·exact h hm
  ·exact h
theorem car_no (n:Nat):(32:UInt8)∉carL.getD n []:=by
 match n with
 |0=>decide
 |1=>decide
 |2=>decide
 |n+3=>exact List.not_mem_nil
theorem desg_no (i:Int):(32:UInt8)∉desg i:=by
 unfold desg
 intro h
 simp only[List.mem_append,List.mem_singleton] at h
 rcases h with ((h|h)|h)|h
 ·exact car_no _ h
 ·exact dgs_no _ _ _ _ (by simp) h
 ·exact absurd h (by decide)
 ·exact dgs_no _ _ _ _ (by simp) h
theorem srcT_no (n i:Int) (p:Plt):(32:UInt8)∉srcT n i p:=by
 unfold srcT
 intro h
 simp only[List.mem_append] at h
 rcases h with (((((((h|h)|h)|h)|h)|h)|h)|h)|h
 ·exact absurd h (by decide)
 ·exact dgs_no _ _ _ _ (by simp) h
 ·exact absurd h (by decide)
 ·exact desg_no _ h
 ·exact absurd h (by decide)
 ·exact dgs_no _ _ _ _ (by simp) h
 ·exact dgs_no _ _ _ _ (by simp) h
 ·exact dgs_no _ _ _ _ (by simp) h
 ·exact absurd h (by decide)
theorem brdT_no (n i:Int):(32:UInt8)∉brdT n i:=by
 unfold brdT
 intro h
 simp only[List.mem_append] at h
 rcases h with (((h|h)|h)|h)|h
 ·exact absurd h (by decide)
 ·exact dgs_no _ _ _ _ (by simp) h
 ·exact absurd h (by decide)
 ·exact desg_no _ h
 ·exact absurd h (by decide)
theorem carG_len (n:Nat):(carG.getD n []).length<=2:=by
 match n with
 |0=>decide
 |1=>decide
 |2=>decide
 |n+3=>exact Nat.zero_le 2
theorem gV_sm (l:List Int) (a:Nat):(gV l a).1.flt.car.length<=2/\(gV l a).1.flt.suf.length<=2:=by
 show(gv1 l (a+4) (gF l (a+1))).1.car.length<=2/\(gv1 l (a+4) (gF l (a+1))).1.suf.length<=2
 unfold gv1
 split
 ·exact⟨(flights_b _).1,by rw[(flights_b _).2.2.2.2.2];exact Nat.zero_le _⟩
 ·exact⟨carG_len _,Nat.zero_le _⟩
theorem smQ0 {x:Acx} (h1:x.mv.length<=1) (h2:x.gl.length<=1) (h3:x.txt=[]) (h4:x.rev=R0) (h5:x.flt=F0):SmQ x:=
 ⟨h1,h2,by rw[h3];exact Nat.zero_le _,by rw[h3];simp,by rw[h4];exact Nat.zero_le _,by rw[h4];exact Nat.zero_le _,by rw[h5];exact Nat.zero_le _,by rw[h5];exact Nat.zero_le _⟩
theorem smQt (t:Bs) (h1:t.length<=200) (h2:(32:UInt8)∉t):SmQ {A0 3 with txt:=t}:=
 ⟨Nat.zero_le _,Nat.zero_le _,h1,h2,Nat.zero_le _,Nat.zero_le _,Nat.zero_le _,Nat.zero_le _⟩
theorem gA_sm (l:List Int) (a:Nat):SmQ (gA l a).1:=by
 unfold gA
 split
 ·exact smQt _ (srcT_len _ _ _) (srcT_no _ _ _)
 split
 ·exact smQ0 (Nat.zero_le _) (Nat.zero_le _) rfl rfl rfl
 split
 ·exact smQ0 (Nat.zero_le _) (Nat.zero_le _) rfl rfl rfl
 split
 ·exact smQ0 (Nat.zero_le _) (Nat.zero_le _) rfl rfl rfl
 split
 ·unfold gA5
  split
  ·exact smQ0 (Nat.zero_le _) (Nat.zero_le _) rfl rfl rfl
  split
  ·exact smQ0 (Nat.zero_le _) (Nat.zero_le _) rfl rfl rfl
  split
  ·exact⟨Nat.zero_le _,Nat.zero_le _,Nat.zero_le _,by show(32:UInt8)∉[];simp,Nat.zero_le _,Nat.zero_le _,(flights_b _).1,by show(flights _).suf.length<=2;rw[(flights_b _).2.2.2.2.2];exact Nat.zero_le _⟩
  ·exact⟨Nat.zero_le _,Nat.zero_le _,Nat.zero_le _,by show(32:UInt8)∉[];simp,(gV_sm _ _).1,(gV_sm _ _).2,Nat.zero_le _,Nat.zero_le _⟩
 split
 ·unfold gA6
  split
  ·exact smQ0 (Nat.zero_le _) (Nat.zero_le _) rfl rfl rfl
  split
  ·exact smQ0 (Nat.zero_le _) (Nat.zero_le _) rfl rfl rfl
  split
  ·exact smQ0 (Nat.zero_le _) (Nat.zero_le _) rfl rfl rfl
  split
  ·exact smQ0 (Nat.zero_le _) (Nat.zero_le _) rfl rfl rfl
  split
  ·exact smQ0 (Nat.zero_le _) (Nat.zero_le _) rfl rfl rfl
  ·exact smQt _ (brdT_len _ _) (brdT_no _ _)
 ·refine smQ0 ?_ ?_ rfl rfl rfl
  ·show(gMv l (a+2+1)).1.length<=1
   unfold gMv
   split<;>simp
  ·show(gGl l (gMv l (a+2+1)).2).1.length<=1
   unfold gGl
   split<;>simp
end Go.Proofs.YtokkbonoplbiaaaGreatDoor
namespace Go.Scr
open Go Go.Lib
theorem digit_no {s:Bs} {c:UInt8} (h:∀x∈s,digit x=true) (hc:digit c=false):c∉s:=fun hm=>by
 have:=h c hm
 rw[hc] at this;cases this
theorem dec_no (n:Nat) {c:UInt8} (hc:digit c=false):c∉decDigits n:=digit_no (dec_digit n) hc
theorem digs_no (n k:Nat) {c:UInt8} (hc:digit c=false):c∉digs n k:=digit_no (digs_digit k n) hc
theorem decW_no (n:Int) {c:UInt8} (hc:digit c=false):c∉decW n:=by
 unfold decW
 split
 ·exact dec_no _ hc
 ·simp
theorem val_dec {n:Int} (h:numB n=true):val (decW n)=some n:=by
 have h0:=of_decide_eq_true h
 unfold decW
 rw[if_pos h]
 have e:((n.toNat:Nat):Int)=n:=by omega
 unfold val
 rw[atoi_num (dec_ne _) (dec_digit _) (by rw[dec_num];omega),dec_num]
 simp only[e]
 rw[if_pos h0]
theorem decW_ne {n:Int} (h:decW n≠[]):numB n=true:=by
 unfold decW at h
 split at h
 ·assumption
 ·exact absurd rfl h
theorem number_w {L:Bs} {n:Int} {ws:List Bs} {b:Bool} (h:numB n=true):Rd.number ⟨L,decW n::ws,b⟩=(n,⟨L,ws,b⟩):=by
 unfold Rd.number Rd.next Rd.value
 simp only[val_dec h]
theorem drop_digs (n k j:Nat):(digs n (k+j)).drop k=digs n j:=by
 rw[digs_app j k n,List.drop_append_of_le_length (by rw[digs_length];exact Nat.le_refl _),List.drop_of_length_le (by rw[digs_length];exact Nat.le_refl _)]
 rfl
theorem take_digs (n k j:Nat):(digs n (k+j)).take k=digs (n / 10^j) k:=by
 rw[digs_app j k n,List.take_append_of_le_length (by rw[digs_length];exact Nat.le_refl _),List.take_of_length_le (by rw[digs_length];exact Nat.le_refl _)]
theorem plt_back {p:Plt} (h:p.ok=true):pltParse p.fmt=(p,0):=by
 have h0:=of_decide_eq_true h
 obtain⟨N,hN⟩:∃N:Nat,p.num=N:=⟨p.num.toNat,by unfold Plt.num;omega⟩
 have hN2:(p.l*1000+p.a)*1000000+p.s=N:=hN
 have e1:p.fmt=digs N 10:=by unfold Plt.fmt;rw[if_pos h,hN,Int.toNat_natCast]
 have t1:(digs N 10).take 1=digs (N / 10^9) 1:=take_digs N 1 9
 have t2:((digs N 10).take 4).drop 1=digs (N / 10^6) 3:=by
  rw[show(digs N 10).take 4=digs (N / 10^6) 4 from take_digs N 4 6]
  exact drop_digs _ 1 3
 have t3:(digs N 10).drop 4=digs N 6:=drop_digs N 4 6
 have e2:pltOf (digs N 10)=p:=by
  unfold pltOf
  rw[t1,t2,t3,digs_num,digs_num,digs_num]
  obtain⟨l,a,s⟩:=p
  simp only at h0 hN2 ⊢
  congr 1<;>omega
 unfold pltParse
 rw[e1,if_pos ⟨digs_length _ _,List.all_eq_true.2 (digs_digit _ _)⟩,e2,if_pos h]
theorem plt_ne {p:Plt} (h:p.fmt≠[]):p.ok=true:=by
 unfold Plt.fmt at h
 split at h
 ·assumption
 ·exact absurd rfl h
theorem plt_no (p:Plt) {c:UInt8} (hc:digit c=false):c∉p.fmt:=by
 unfold Plt.fmt
 split
 ·exact digs_no _ _ hc
 ·simp
theorem plate_w {L:Bs} {p:Plt} {ws:List Bs} {b:Bool} (h:p.ok=true):Rd.plate ⟨L,p.fmt::ws,b⟩=(p,⟨L,ws,b⟩):=by
 unfold Rd.plate Rd.next
 simp only[plt_back h]
 simp
theorem flt_parts {a d u e:Bs} (ha:a.length=2) (hd:d.length=4) (hu:u.length<=1) (he:e.length=2):
  ((a++d++u++[47]++e).length=9\/(a++d++u++[47]++e).length=10)/\(a++d++u++[47]++e).getD ((a++d++u++[47]++e).length - 3) 0=47/\(a++d++u++[47]++e).take 2=a/\
  ((a++d++u++[47]++e).take 6).drop 2=d/\((a++d++u++[47]++e).take ((a++d++u++[47]++e).length - 3)).drop 6=u/\(a++d++u++[47]++e).drop ((a++d++u++[47]++e).length - 2)=e:=by
 match a,ha,d,hd,e,he with
 |[a0,a1],_,[d0,d1,d2,d3],_,[e0,e1],_=>
  match u,hu with
  |[],_=>exact⟨.inl rfl,rfl,rfl,rfl,rfl,rfl⟩
  |[u0],_=>exact⟨.inr rfl,rfl,rfl,rfl,rfl,rfl⟩
theorem carB_len {s:Bs} (h:carB s=true):s.length=2:=by
 unfold carB at h
 simp only[Bool.and_eq_true] at h
 exact of_decide_eq_true h.1.1
theorem sufB_len {s:Bs} (h:sufB s=true):s.length<=1:=by
 unfold sufB at h
 simp only[Bool.and_eq_true] at h
 exact of_decide_eq_true h.1
theorem flt_back {f:Flt} (h:f.ok=true):fltParse f.fmt=(f,0):=by
 have h0:=h
 unfold Flt.ok at h0
 simp only[Bool.and_eq_true,decide_eq_true_eq] at h0
 obtain⟨⟨⟨c1,c2⟩,c3⟩,c4⟩:=h0
 have e1:f.fmt=f.car++digs f.num.toNat 4++f.suf++[47]++digs f.day.toNat 2:=by unfold Flt.fmt;rw[if_pos h]
 rw[e1]
 obtain⟨p1,p2,p3,p4,p5,p6⟩:=flt_parts (a:=f.car) (d:=digs f.num.toNat 4) (u:=f.suf) (e:=digs f.day.toNat 2) (carB_len c1) (digs_length _ _) (sufB_len c3) (digs_length _ _)
 generalize f.car++digs f.num.toNat 4++f.suf++[47]++digs f.day.toNat 2=s at*
 have d4:(digs f.num.toNat 4).all digit=true:=List.all_eq_true.2 (digs_digit _ _)
 have d2:(digs f.day.toNat 2).all digit=true:=List.all_eq_true.2 (digs_digit _ _)
 have e2:fltOf s=f:=by
  unfold fltOf
  rw[p3,p4,p5,p6,digs_num,digs_num]
  obtain⟨car,num,suf,day⟩:=f
  simp only at c2 c4 ⊢
  congr 1<;>omega
 have e3:fltShape s=true:=by
  unfold fltShape
  rw[p2,p3,p4,p5,p6,c1,d4,c3,d2,decide_eq_true p1];rfl
 unfold fltParse
 rw[if_pos e3,e2,if_neg (by omega)]
theorem flt_ne {f:Flt} (h:f.fmt≠[]):f.ok=true:=by
 unfold Flt.fmt at h
 split at h
 ·assumption
 ·exact absurd rfl h
theorem flt_no (f:Flt) {c:UInt8} (hc:digit c=false) (hl:letter c=false) (h47:c≠47):c∉f.fmt:=by
 unfold Flt.fmt
 split
 ·rename_i h
  unfold Flt.ok at h
  simp only[Bool.and_eq_true,decide_eq_true_eq] at h
  obtain⟨⟨⟨c1,c2⟩,c3⟩,c4⟩:=h
  unfold carB at c1
  unfold sufB at c3
  simp only[Bool.and_eq_true,List.all_eq_true,Bool.or_eq_true] at c1 c3
  intro hm
  simp only[List.mem_append,List.mem_singleton] at hm
  rcases hm with (((hm|hm)|hm)|hm)|hm
  ·rcases c1.1.2 c hm with h1|h1
   ·rw[hl] at h1;cases h1
   ·rw[hc] at h1;cases h1
  ·exact digs_no _ _ hc hm
  ·have h1:=c3.2 c hm
   rw[hl] at h1;cases h1
  ·exact h47 hm
  ·exact digs_no _ _ hc hm
 ·simp
theorem flight_w {L:Bs} {f:Flt} {ws:List Bs} {b:Bool} (h:f.ok=true):Rd.flight ⟨L,f.fmt::ws,b⟩=(f,⟨L,ws,b⟩):=by
 unfold Rd.flight Rd.next
 simp only[flt_back h]
 simp
theorem faultN_no (k:Int):58∉faultN k/\32∉faultN k:=by
 unfold faultN
 repeat' split
 all_goals decide
theorem kindOf_fault {k:Int} (h:1<=k/\k<=6):kindOf (faultN k)=k:=by
 have:k=1\/k=2\/k=3\/k=4\/k=5\/k=6:=by omega
 rcases this with rfl|rfl|rfl|rfl|rfl|rfl<;>decide
theorem wFault_split (f:Flaw):splitL 58 (wFault f)=[faultN f.k,decW f.n,decW f.w]:=by
 have e:wFault f=faultN f.k++58::(decW f.n++58::decW f.w):=by unfold wFault;simp
 rw[e,splitL_cons (faultN_no _).1,splitL_cons (decW_no _ (by decide)),splitL_word (decW_no _ (by decide))]
theorem flawB_of {lo hi:Int} {f:Flaw} (h:flawB lo hi f=true):lo<=f.k/\f.k<=hi/\numB f.n=true/\numB f.w=true:=by
 unfold flawB at h
 simp only[Bool.and_eq_true,decide_eq_true_eq] at h
 exact⟨h.1.1.1,h.1.1.2,h.1.2,h.2⟩
theorem fault_w {r:Rd} {f:Flaw} (hk:1<=f.k/\f.k<=6) (hn:numB f.n=true) (hw:numB f.w=true):r.fault (wFault f)=(f,r):=by
 unfold Rd.fault
 rw[wFault_split]
 have e1:([faultN f.k,decW f.n,decW f.w]).getD 0 []=faultN f.k:=rfl
 have e2:([faultN f.k,decW f.n,decW f.w]).getD 1 []=decW f.n:=rfl
 have e3:([faultN f.k,decW f.n,decW f.w]).getD 2 []=decW f.w:=rfl
 rw[e1,e2,e3,kindOf_fault hk,if_pos ⟨rfl,by omega⟩]
 unfold Rd.value
 simp only[val_dec hn,val_dec hw]
theorem wFault_no (f:Flaw):32∉wFault f:=by
 unfold wFault
 intro h
 simp only[List.mem_append,List.mem_singleton] at h
 rcases h with (((h|h)|h)|h)|h
 ·exact(faultN_no _).2 h
 ·exact absurd h (by decide)
 ·exact decW_no _ (by decide) h
 ·exact absurd h (by decide)
 ·exact decW_no _ (by decide) h
theorem wFault_lost (f:Flaw):wFault f≠sLost:=by
 intro h
 have h1:=wFault_split f
 rw[h] at h1
 have h2:splitL 58 sLost=[sLost]:=by decide
 rw[h2] at h1
 simp at h1
theorem wFault_ne (f:Flaw):wFault f≠[]:=by
 unfold wFault
 simp
open Go Go.Lib
theorem wWord_ok {w:Wr} {s:Bs} (h:(wWord w s).2=false):w.2=false/\s≠[]/\wWord w s=(w.1++[s],false):=by
 unfold wWord at h ⊢
 simp only[Bool.or_eq_false_iff] at h
 refine⟨h.1,fun e=>?_,?_⟩
 ·rw[e] at h;exact absurd h.2 (by decide)
 ·rw[h.1,h.2];rfl
theorem wNum_ok {w:Wr} {n:Int} (h:(wNums w [n]).2=false):w.2=false/\numB n=true/\wNums w [n]=(w.1++[decW n],false):=by
 obtain⟨h1,h2,h3⟩:=wWord_ok (w:=w) (s:=decW n) h
 exact⟨h1,decW_ne h2,h3⟩
theorem wNum2_ok {w:Wr} {n m:Int} (h:(wNums w [n,m]).2=false):w.2=false/\numB n=true/\numB m=true/\wNums w [n,m]=(w.1++[decW n,decW m],false):=by
 obtain⟨h1,h2,h3⟩:=wWord_ok (w:=wWord w (decW n)) (s:=decW m) h
 obtain⟨h4,h5,h6⟩:=wWord_ok h1
 refine⟨h4,decW_ne h5,decW_ne h2,?_⟩
 show wWord (wWord w (decW n)) (decW m)=_
 rw[h6] at h3 ⊢
 rw[h3];simp
theorem wFaults_ok {lo hi:Int}:∀{l:List Flaw} {w:Wr},(wFaults lo hi l w).2=false->(∀f∈l,flawB lo hi f=true)/\w.2=false/\wFaults lo hi l w=(w.1++l.map wFault,false)
 |[],w,h=>⟨by simp,h,by
  have h:w.2=false:=h
  show w=_
  rw[List.map_nil,List.append_nil,<-h]⟩
 |f::r,w,h=>by
  unfold wFaults at h ⊢
  by_cases c:flawB lo hi f=true
  ·rw[if_pos c] at h ⊢
   obtain⟨h1,h2,h3⟩:=wFaults_ok h
   obtain⟨h4,h5,h6⟩:=wWord_ok h2
   refine⟨fun x hx=>?_,h4,?_⟩
   ·rcases List.mem_cons.1 hx with rfl|hx
    ·exact c
    ·exact h1 x hx
   ·rw[h3,h6];simp
  ·rw[if_neg c] at h
   cases h
theorem faults_back {L:Bs}:∀{l:List Flaw} {n:Nat} {m g:List Flaw},l.length<=n->(∀f∈l,(1<=f.k/\f.k<=6)/\numB f.n=true/\numB f.w=true)->
  Rd.faults n ⟨L,l.map wFault,false⟩ m g=(m++l.filter (fun f=>decide (f.k<=2)),g++l.filter (fun f=>!decide (f.k<=2)),⟨L,[],false⟩)
 |[],0,m,g,_,_=>by simp[Rd.faults]
 |[],n+1,m,g,_,_=>by simp[Rd.faults]
 |f::l,0,m,g,hn,_=>by simp at hn
 |f::l,n+1,m,g,hn,h=>by
  obtain⟨h1,h2,h3⟩:=h f (by simp)
  have ih:=fun m g=>faults_back (L:=L) (l:=l) (n:=n) (m:=m) (g:=g) (by simpa using hn) fun x hx=>h x (List.mem_cons_of_mem _ hx)
  have e1:Rd.next ⟨L,(f::l).map wFault,false⟩=(wFault f,⟨L,l.map wFault,false⟩):=rfl
  have e2:=fault_w (r:=⟨L,l.map wFault,false⟩) h1 h2 h3
  rw[Rd.faults,e1]
  simp only
  rw[if_pos ⟨by simp,trivial⟩,e2]
  simp only
  by_cases c:f.k<=2
  ·rw[if_pos c,ih]
   simp[c]
  ·rw[if_neg c,ih]
   simp[c]
theorem filter_all {l:List Flaw} {p:Flaw->Bool} (h:∀f∈l,p f=true):l.filter p=l:=List.filter_eq_self.2 h
theorem filter_no {l:List Flaw} {p:Flaw->Bool} (h:∀f∈l,p f=false):l.filter p=[]:=List.filter_eq_nil_iff.2 fun a ha=>by rw[h a ha];decide
theorem parse_of {x:Acx} {s:Bs} {ws:List Bs} (h:lineS x=some s) (hs:s=join ws [32]) (h0:ws≠[]) (hn:∀w∈ws,32∉w) (ha:Rd.act ⟨s,ws,false⟩=(x,⟨s,[],false⟩)):parseS s=some x:=by
 have e:rd0 s=⟨s,ws,false⟩:=by
  unfold rd0
  rw[hs,splitL_join 32 h0 hn]
 unfold parseS
 rw[e,ha]
 exact if_pos ⟨rfl,rfl,h⟩
theorem sp:digit 32=false:=by decide
theorem line_1 {x:Acx} (hk:x.k=1) (ho:x=only x) {s:Bs} (h:lineS x=some s) (hf:(wAct ([],false) x).2=false) (hs:s=join (wAct ([],false) x).1 [32]):parseS s=some x:=by
 have hw:wAct ([],false) x=wFaults 3 6 x.gl (wFaults 1 2 x.mv (if x.lost then wWord (wWord ([],false) sTick) sLost else wWord ([],false) sTick)):=by unfold wAct;rw[if_pos hk]
 rw[hw] at hf hs
 obtain⟨g1,g2,g3⟩:=wFaults_ok hf
 obtain⟨m1,m2,m3⟩:=wFaults_ok g2
 rw[g3,m3] at hs
 have hall:∀f∈x.mv++x.gl,(1<=f.k/\f.k<=6)/\numB f.n=true/\numB f.w=true:=by
  intro f hf
  rcases List.mem_append.1 hf with hf|hf
  ·obtain⟨a,b,c,d⟩:=flawB_of (m1 f hf);exact⟨⟨by omega,by omega⟩,c,d⟩
  ·obtain⟨a,b,c,d⟩:=flawB_of (g1 f hf);exact⟨⟨by omega,by omega⟩,c,d⟩
 have f1:(x.mv++x.gl).filter (fun f=>decide (f.k<=2))=x.mv:=by
  rw[List.filter_append,filter_all fun f hf=>decide_eq_true (flawB_of (m1 f hf)).2.1,filter_no fun f hf=>decide_eq_false (by have:=(flawB_of (g1 f hf)).1;omega),List.append_nil]
 have f2:(x.mv++x.gl).filter (fun f=>!decide (f.k<=2))=x.gl:=by
  rw[List.filter_append,filter_no fun f hf=>by rw[decide_eq_true (flawB_of (m1 f hf)).2.1];rfl,filter_all fun f hf=>by rw[decide_eq_false (by have:=(flawB_of (g1 f hf)).1;omega)];rfl,List.nil_append]
 have hb:=fun L n hn=>faults_back (L:=L) (n:=n) (m:=[]) (g:=[]) hn hall
 have hx:x={A0 1 with mv:=x.mv,gl:=x.gl,lost:=x.lost}:=by
  conv=>lhs;rw[ho]
  unfold only
  rw[if_pos hk,hk]
 have hno:∀w∈(x.mv++x.gl).map wFault,32∉w:=fun w hw=>by
  obtain⟨f,_,rfl⟩:=List.mem_map.1 hw
  exact wFault_no f
 cases hl:x.lost with
 |true=>
  rw[hl] at hs
  have hs:s=join (sTick::sLost::(x.mv++x.gl).map wFault) [32]:=by rw[hs,List.map_append];simp[wWord,sTick,sLost]
  refine parse_of h hs (by simp) (fun w hw=>?_) ?_
  ·rcases List.mem_cons.1 hw with rfl|hw
   ·decide
   ·rcases List.mem_cons.1 hw with rfl|hw
    ·decide
    ·exact hno w hw
  ·show Rd.tick ⟨s,sLost::(x.mv++x.gl).map wFault,false⟩=_
   have ht:Rd.tick ⟨s,sLost::(x.mv++x.gl).map wFault,false⟩=({A0 1 with lost:=true,mv:=(Rd.faults (sLost::(x.mv++x.gl).map wFault).length (Rd.next ⟨s,sLost::(x.mv++x.gl).map wFault,false⟩).2 [] []).1,gl:=(Rd.faults (sLost::(x.mv++x.gl).map wFault).length (Rd.next ⟨s,sLost::(x.mv++x.gl).map wFault,false⟩).2 [] []).2.1},(Rd.faults (sLost::(x.mv++x.gl).map wFault).length (Rd.next ⟨s,sLost::(x.mv++x.gl).map wFault,false⟩).2 [] []).2.2):=if_pos rfl
   rw[ht]
   have e1:(Rd.next ⟨s,sLost::(x.mv++x.gl).map wFault,false⟩).2=⟨s,(x.mv++x.gl).map wFault,false⟩:=rfl
   rw[e1,hb s _ (by simp),f1,f2]
   conv=>rhs;rw[hx,hl]
   rfl
 |false=>
  rw[hl] at hs
  have hs:s=join (sTick::(x.mv++x.gl).map wFault) [32]:=by rw[hs,List.map_append];simp[wWord,sTick]
  refine parse_of h hs (by simp) (fun w hw=>?_) ?_
  ·rcases List.mem_cons.1 hw with rfl|hw
   ·decide
   ·exact hno w hw
  ·show Rd.tick ⟨s,(x.mv++x.gl).map wFault,false⟩=_
   unfold Rd.tick
   have hne:¬((x.mv++x.gl).map wFault).head?=some sLost:=by
    cases x.mv++x.gl with
    |nil=>simp
    |cons f l=>simp[wFault_lost]
   rw[if_neg hne,hb s _ (by simp),f1,f2]
   conv=>rhs;rw[hx,hl]
   rfl
theorem line_2 {x:Acx} (hk:x.k=2) (ho:x=only x) {s:Bs} (h:lineS x=some s) (hf:(wAct ([],false) x).2=false) (hs:s=join (wAct ([],false) x).1 [32]):parseS s=some x:=by
 have hw:wAct ([],false) x=wNums (wWord (wWord ([],false) sInduct) x.plt.fmt) [x.node]:=by
  unfold wAct
  rw[if_neg (by omega),if_pos hk]
 rw[hw] at hf hs
 obtain⟨a1,b1,c1⟩:=wNum_ok hf
 obtain⟨a2,b2,c2⟩:=wWord_ok a1
 rw[c1,c2] at hs
 have hs:s=join [sInduct,x.plt.fmt,decW x.node] [32]:=hs
 have hx:x={A0 2 with plt:=x.plt,node:=x.node}:=by
  conv=>lhs;rw[ho]
  unfold only
  rw[if_neg (by omega),if_pos (by omega),hk]
 refine parse_of h hs (by simp) (fun w hw=>?_) ?_
 ·simp only[List.mem_cons,List.not_mem_nil,or_false] at hw
  rcases hw with rfl|rfl|rfl
  ·decide
  ·exact plt_no _ sp
  ·exact decW_no _ sp
 ·show Rd.act3 2 ⟨s,[x.plt.fmt,decW x.node],false⟩=_
  unfold Rd.act3
  simp only[plate_w (plt_ne b2),number_w b1]
  conv=>rhs;rw[hx]
  try rfl
theorem line_4 {x:Acx} (hk:x.k=4) (ho:x=only x) {s:Bs} (h:lineS x=some s) (hf:(wAct ([],false) x).2=false) (hs:s=join (wAct ([],false) x).1 [32]):parseS s=some x:=by
 have hw:wAct ([],false) x=wWord (wNums (wWord ([],false) sVerdict) [x.img]) (if x.clr then sClear else sAlarm):=by
  unfold wAct
  rw[if_neg (by omega),if_neg (by omega),if_neg (by omega),if_pos hk]
 rw[hw] at hf hs
 obtain⟨a1,b1,c1⟩:=wWord_ok hf
 obtain⟨a2,b2,c2⟩:=wNum_ok a1
 rw[c1,c2] at hs
 have hs:s=join [sVerdict,decW x.img,(if x.clr then sClear else sAlarm)] [32]:=hs
 have hx:x={A0 4 with img:=x.img,clr:=x.clr}:=by
  conv=>lhs;rw[ho]
  unfold only
  rw[if_neg (by omega),if_neg (by omega),if_neg (by omega),if_pos (by omega),hk]
 refine parse_of h hs (by simp) (fun w hw=>?_) ?_
 ·simp only[List.mem_cons,List.not_mem_nil,or_false] at hw
  rcases hw with rfl|rfl|rfl
  ·decide
  ·exact decW_no _ sp
  ·split<;>decide
 ·show Rd.verdict ⟨s,[decW x.img,(if x.clr then sClear else sAlarm)],false⟩=_
  unfold Rd.verdict
  simp only[number_w b2]
  conv=>rhs;rw[hx]
  cases x.clr<;>rfl
theorem line_6 {x:Acx} (hk:x.k=6) (ho:x=only x) {s:Bs} (h:lineS x=some s) (hf:(wAct ([],false) x).2=false) (hs:s=join (wAct ([],false) x).1 [32]):parseS s=some x:=by
 have hw:wAct ([],false) x=wNums (wWord ([],false) sBreak) [x.node]:=by
  unfold wAct
  rw[if_neg (by omega),if_neg (by omega),if_neg (by omega),if_neg (by omega),if_neg (by omega),if_pos hk]
 rw[hw] at hf hs
 obtain⟨a1,b1,c1⟩:=wNum_ok hf
 rw[c1] at hs
 have hs:s=join [sBreak,decW x.node] [32]:=hs
 have hx:x={A0 6 with node:=x.node}:=by
  conv=>lhs;rw[ho]
  unfold only
  rw[if_neg (by omega),if_neg (by omega),if_neg (by omega),if_neg (by omega),if_neg (by omega),if_pos (by omega),hk]
 refine parse_of h hs (by simp) (fun w hw=>?_) ?_
 ·simp only[List.mem_cons,List.not_mem_nil,or_false] at hw
  rcases hw with rfl|rfl
  ·decide
  ·exact decW_no _ sp
 ·show Rd.act1 6 ⟨s,[decW x.node],false⟩=_
  unfold Rd.act1
  simp only[number_w b1]
  conv=>rhs;rw[hx]
  try rfl
theorem line_7 {x:Acx} (hk:x.k=7) (ho:x=only x) {s:Bs} (h:lineS x=some s) (hf:(wAct ([],false) x).2=false) (hs:s=join (wAct ([],false) x).1 [32]):parseS s=some x:=by
 have hw:wAct ([],false) x=wNums (wWord ([],false) sRepair) [x.node]:=by
  unfold wAct
  rw[if_neg (by omega),if_neg (by omega),if_neg (by omega),if_neg (by omega),if_neg (by omega),if_neg (by omega),if_pos hk]
 rw[hw] at hf hs
 obtain⟨a1,b1,c1⟩:=wNum_ok hf
 rw[c1] at hs
 have hs:s=join [sRepair,decW x.node] [32]:=hs
 have hx:x={A0 7 with node:=x.node}:=by
  conv=>lhs;rw[ho]
  unfold only
  rw[if_neg (by omega),if_neg (by omega),if_neg (by omega),if_neg (by omega),if_neg (by omega),if_pos (by omega),hk]
 refine parse_of h hs (by simp) (fun w hw=>?_) ?_
 ·simp only[List.mem_cons,List.not_mem_nil,or_false] at hw
  rcases hw with rfl|rfl
  ·decide
  ·exact decW_no _ sp
 ·show Rd.act1 7 ⟨s,[decW x.node],false⟩=_
  unfold Rd.act1
  simp only[number_w b1]
  conv=>rhs;rw[hx]
  try rfl
theorem line_8 {x:Acx} (hk:x.k=8) (ho:x=only x) {s:Bs} (h:lineS x=some s) (hf:(wAct ([],false) x).2=false) (hs:s=join (wAct ([],false) x).1 [32]):parseS s=some x:=by
 have hw:wAct ([],false) x=wNums (wWord (wNums (wWord ([],false) sLoad) [x.dev]) x.plt.fmt) [x.node,x.con]:=by
  unfold wAct
  rw[if_neg (by omega),if_neg (by omega),if_neg (by omega),if_neg (by omega),if_neg (by omega),if_neg (by omega),if_neg (by omega),if_pos hk]
 rw[hw] at hf hs
 obtain⟨a1,b1,d1,c1⟩:=wNum2_ok hf
 obtain⟨a2,b2,c2⟩:=wWord_ok a1
 obtain⟨a3,b3,c3⟩:=wNum_ok a2
 rw[c1,c2,c3] at hs
 have hs:s=join [sLoad,decW x.dev,x.plt.fmt,decW x.node,decW x.con] [32]:=hs
 have hx:x={A0 8 with dev:=x.dev,plt:=x.plt,node:=x.node,con:=x.con}:=by
  conv=>lhs;rw[ho]
  unfold only
  rw[if_neg (by omega),if_neg (by omega),if_neg (by omega),if_neg (by omega),if_neg (by omega),if_neg (by omega),if_pos (by omega),hk]
 refine parse_of h hs (by simp) (fun w hw=>?_) ?_
 ·simp only[List.mem_cons,List.not_mem_nil,or_false] at hw
  rcases hw with rfl|rfl|rfl|rfl|rfl
  ·decide
  ·exact decW_no _ sp
  ·exact plt_no _ sp
  ·exact decW_no _ sp
  ·exact decW_no _ sp
 ·show Rd.load ⟨s,[decW x.dev,x.plt.fmt,decW x.node,decW x.con],false⟩=_
  unfold Rd.load
  simp only[number_w b3,plate_w (plt_ne b2),number_w b1,number_w d1]
  conv=>rhs;rw[hx]
  try rfl
theorem line_9 {x:Acx} (hk:x.k=9) (ho:x=only x) {s:Bs} (h:lineS x=some s) (hf:(wAct ([],false) x).2=false) (hs:s=join (wAct ([],false) x).1 [32]):parseS s=some x:=by
 have hw:wAct ([],false) x=wNums (wWord (wNums (wWord ([],false) sUnload) [x.dev]) x.plt.fmt) [x.con]:=by
  unfold wAct
  rw[if_neg (by omega),if_neg (by omega),if_neg (by omega),if_neg (by omega),if_neg (by omega),if_neg (by omega),if_neg (by omega),if_neg (by omega),if_pos hk]
 rw[hw] at hf hs
 obtain⟨a1,b1,c1⟩:=wNum_ok hf
 obtain⟨a2,b2,c2⟩:=wWord_ok a1
 obtain⟨a3,b3,c3⟩:=wNum_ok a2
 rw[c1,c2,c3] at hs
 have hs:s=join [sUnload,decW x.dev,x.plt.fmt,decW x.con] [32]:=hs
 have hx:x={A0 9 with dev:=x.dev,plt:=x.plt,con:=x.con}:=by
  conv=>lhs;rw[ho]
  unfold only
  rw[if_neg (by omega),if_neg (by omega),if_neg (by omega),if_neg (by omega),if_neg (by omega),if_neg (by omega),if_neg (by omega),if_pos (by omega),hk]
 refine parse_of h hs (by simp) (fun w hw=>?_) ?_
 ·simp only[List.mem_cons,List.not_mem_nil,or_false] at hw
  rcases hw with rfl|rfl|rfl|rfl
  ·decide
  ·exact decW_no _ sp
  ·exact plt_no _ sp
  ·exact decW_no _ sp
 ·show Rd.unload ⟨s,[decW x.dev,x.plt.fmt,decW x.con],false⟩=_
  unfold Rd.unload
  simp only[number_w b3,plate_w (plt_ne b2),number_w b1]
  conv=>rhs;rw[hx]
  try rfl
theorem line_10 {x:Acx} (hk:x.k=10) (ho:x=only x) {s:Bs} (h:lineS x=some s) (hf:(wAct ([],false) x).2=false) (hs:s=join (wAct ([],false) x).1 [32]):parseS s=some x:=by
 have hw:wAct ([],false) x=wNums (wWord (wWord ([],false) sPick) x.plt.fmt) [x.node]:=by
  unfold wAct
  rw[if_neg (by omega),if_neg (by omega),if_neg (by omega),if_neg (by omega),if_neg (by omega),if_neg (by omega),if_neg (by omega),if_neg (by omega),if_neg (by omega),if_pos hk]
 rw[hw] at hf hs
 obtain⟨a1,b1,c1⟩:=wNum_ok hf
 obtain⟨a2,b2,c2⟩:=wWord_ok a1
 rw[c1,c2] at hs
 have hs:s=join [sPick,x.plt.fmt,decW x.node] [32]:=hs
 have hx:x={A0 10 with plt:=x.plt,node:=x.node}:=by
  conv=>lhs;rw[ho]
  unfold only
  rw[if_neg (by omega),if_pos (by omega),hk]
 refine parse_of h hs (by simp) (fun w hw=>?_) ?_
 ·simp only[List.mem_cons,List.not_mem_nil,or_false] at hw
  rcases hw with rfl|rfl|rfl
  ·decide
  ·exact plt_no _ sp
  ·exact decW_no _ sp
 ·show Rd.act3 10 ⟨s,[x.plt.fmt,decW x.node],false⟩=_
  unfold Rd.act3
  simp only[plate_w (plt_ne b2),number_w b1]
  conv=>rhs;rw[hx]
  try rfl
theorem line_11 {x:Acx} (hk:x.k=11) (ho:x=only x) {s:Bs} (h:lineS x=some s) (hf:(wAct ([],false) x).2=false) (hs:s=join (wAct ([],false) x).1 [32]):parseS s=some x:=by
 have hw:wAct ([],false) x=wNums (wWord ([],false) sOffline) [x.dev]:=by
  unfold wAct
  rw[if_neg (by omega),if_neg (by omega),if_neg (by omega),if_neg (by omega),if_neg (by omega),if_neg (by omega),if_neg (by omega),if_neg (by omega),if_neg (by omega),if_neg (by omega),if_pos hk]
 rw[hw] at hf hs
 obtain⟨a1,b1,c1⟩:=wNum_ok hf
 rw[c1] at hs
 have hs:s=join [sOffline,decW x.dev] [32]:=hs
 have hx:x={A0 11 with dev:=x.dev}:=by
  conv=>lhs;rw[ho]
  unfold only
  rw[if_neg (by omega),if_neg (by omega),if_neg (by omega),if_neg (by omega),if_neg (by omega),if_neg (by omega),if_neg (by omega),if_neg (by omega),if_pos (by omega),hk]
 refine parse_of h hs (by simp) (fun w hw=>?_) ?_
 ·simp only[List.mem_cons,List.not_mem_nil,or_false] at hw
  rcases hw with rfl|rfl
  ·decide
  ·exact decW_no _ sp
 ·show Rd.act2 11 ⟨s,[decW x.dev],false⟩=_
  unfold Rd.act2
  simp only[number_w b1]
  conv=>rhs;rw[hx]
  try rfl
theorem line_12 {x:Acx} (hk:x.k=12) (ho:x=only x) {s:Bs} (h:lineS x=some s) (hf:(wAct ([],false) x).2=false) (hs:s=join (wAct ([],false) x).1 [32]):parseS s=some x:=by
 have hw:wAct ([],false) x=wNums (wWord ([],false) sOnline) [x.dev]:=by
  unfold wAct
  rw[if_neg (by omega),if_neg (by omega),if_neg (by omega),if_neg (by omega),if_neg (by omega),if_neg (by omega),if_neg (by omega),if_neg (by omega),if_neg (by omega),if_neg (by omega),if_neg (by omega),if_pos hk]
 rw[hw] at hf hs
 obtain⟨a1,b1,c1⟩:=wNum_ok hf
 rw[c1] at hs
 have hs:s=join [sOnline,decW x.dev] [32]:=hs
 have hx:x={A0 12 with dev:=x.dev}:=by
  conv=>lhs;rw[ho]
  unfold only
  rw[if_neg (by omega),if_neg (by omega),if_neg (by omega),if_neg (by omega),if_neg (by omega),if_neg (by omega),if_neg (by omega),if_neg (by omega),if_pos (by omega),hk]
 refine parse_of h hs (by simp) (fun w hw=>?_) ?_
 ·simp only[List.mem_cons,List.not_mem_nil,or_false] at hw
  rcases hw with rfl|rfl
  ·decide
  ·exact decW_no _ sp
 ·show Rd.act2 12 ⟨s,[decW x.dev],false⟩=_
  unfold Rd.act2
  simp only[number_w b1]
  conv=>rhs;rw[hx]
  try rfl
theorem line_13 {x:Acx} (hk:x.k=13) (ho:x=only x) {s:Bs} (h:lineS x=some s) (hf:(wAct ([],false) x).2=false) (hs:s=join (wAct ([],false) x).1 [32]):parseS s=some x:=by
 have hw:wAct ([],false) x=wWord (wWord ([],false) sDepart) x.flt.fmt:=by
  unfold wAct
  rw[if_neg (by omega),if_neg (by omega),if_neg (by omega),if_neg (by omega),if_neg (by omega),if_neg (by omega),if_neg (by omega),if_neg (by omega),if_neg (by omega),if_neg (by omega),if_neg (by omega),if_neg (by omega),if_pos hk]
 rw[hw] at hf hs
 obtain⟨a1,b1,c1⟩:=wWord_ok hf
 rw[c1] at hs
 have hs:s=join [sDepart,x.flt.fmt] [32]:=hs
 have hx:x={A0 13 with flt:=x.flt}:=by
  conv=>lhs;rw[ho]
  unfold only
  rw[if_neg (by omega),if_neg (by omega),if_neg (by omega),if_neg (by omega),if_neg (by omega),if_neg (by omega),if_neg (by omega),if_neg (by omega),if_neg (by omega),if_pos (by omega),hk]
 refine parse_of h hs (by simp) (fun w hw=>?_) ?_
 ·simp only[List.mem_cons,List.not_mem_nil,or_false] at hw
  rcases hw with rfl|rfl
  ·decide
  ·exact flt_no _ sp (by decide) (by decide)
 ·show Rd.depart ⟨s,[x.flt.fmt],false⟩=_
  unfold Rd.depart
  simp only[flight_w (flt_ne b1)]
  conv=>rhs;rw[hx]
  try rfl
theorem line_14 {x:Acx} (hk:x.k=14) (ho:x=only x) {s:Bs} (h:lineS x=some s) (hf:(wAct ([],false) x).2=false) (hs:s=join (wAct ([],false) x).1 [32]):parseS s=some x:=by
 have hw:wAct ([],false) x=wWord ([],false) sCrash:=by
  unfold wAct
  rw[if_neg (by omega),if_neg (by omega),if_neg (by omega),if_neg (by omega),if_neg (by omega),if_neg (by omega),if_neg (by omega),if_neg (by omega),if_neg (by omega),if_neg (by omega),if_neg (by omega),if_neg (by omega),if_neg (by omega)]
 rw[hw] at hf hs
 have hs:s=join [sCrash] [32]:=hs
 have hx:x=A0 14:=by
  conv=>lhs;rw[ho]
  unfold only
  rw[if_neg (by omega),if_neg (by omega),if_neg (by omega),if_neg (by omega),if_neg (by omega),if_neg (by omega),if_neg (by omega),if_neg (by omega),if_neg (by omega),if_neg (by omega),hk]
 refine parse_of h hs (by simp) (fun w hw=>?_) ?_
 ·simp only[List.mem_cons,List.not_mem_nil,or_false] at hw
  subst hw
  decide
 ·show Rd.crash ⟨s,[],false⟩=_
  unfold Rd.crash
  rw[hx]
theorem line_3 {x:Acx} (hk:x.k=3) (ho:x=only x) {s:Bs} (h:lineS x=some s) (hf:(wAct ([],false) x).2=false) (hs:s=join (wAct ([],false) x).1 [32]):parseS s=some x:=by
 have hw:wAct ([],false) x=wMsg (wWord ([],false) sMessage) x.txt:=by
  unfold wAct
  rw[if_neg (by omega),if_neg (by omega),if_pos hk]
 rw[hw] at hf hs
 have hx:x=msgA x.txt:=by
  conv=>lhs;rw[ho]
  unfold only
  rw[if_neg (by omega),if_neg (by omega),if_pos (by omega),hk]
  rfl
 have ht:txtB x.txt=true:=by
  have h1:((wWord ([],false) sMessage).2||!txtB x.txt)=false:=hf
  simp only[Bool.or_eq_false_iff,Bool.not_eq_false'] at h1
  exact h1.2
 have hb:(124:UInt8)∉x.txt:=fun hm=>by
  unfold txtB at ht
  rw[List.all_eq_true] at ht
  have h1:=of_decide_eq_true (ht 124 hm)
  have h2:(124:UInt8).toNat=124:=rfl
  omega
 have hl:=line_msg ht
 rw[<-hx,h] at hl
 have hs':=Option.some.inj hl
 rw[hs',parse_msg ht hb,<-hx]
theorem rev_no (k:Int):32∉revN k:=by
 unfold revN
 repeat' split
 all_goals decide
theorem line_5 {x:Acx} (hk:x.k=5) (ho:x=only x) {s:Bs} (h:lineS x=some s) (hf:(wAct ([],false) x).2=false) (hs:s=join (wAct ([],false) x).1 [32]):parseS s=some x:=by
 have hw:wAct ([],false) x=wRev ([],false) x.rev:=by
  unfold wAct
  rw[if_neg (by omega),if_neg (by omega),if_neg (by omega),if_neg (by omega),if_pos hk]
 rw[hw] at hf hs
 have hx:x={A0 5 with rev:=x.rev}:=by
  conv=>lhs;rw[ho]
  unfold only
  rw[if_neg (by omega),if_neg (by omega),if_neg (by omega),if_neg (by omega),if_pos hk,hk]
 generalize x.rev=r at*
 obtain⟨rk,am,fl⟩:=r
 unfold wRev at hf hs
 by_cases c0:1<=rk/\rk<=5
 ·rw[if_pos c0] at hf hs
  by_cases c4:4<=rk
  ·rw[if_pos c4] at hf hs
   simp only[Bool.or_eq_false_iff,Bool.not_eq_false',decide_eq_true_eq] at hf
   obtain⟨hf,ham⟩:=hf
   obtain⟨a1,b1,c1⟩:=wWord_ok hf
   obtain⟨a2,b2,c2⟩:=wWord_ok a1
   rw[c1,c2] at hs
   have hs:s=join [revN rk,fl.fmt] [32]:=hs
   refine parse_of h hs (by simp) (fun w hw=>?_) ?_
   ·simp only[List.mem_cons,List.not_mem_nil,or_false] at hw
    rcases hw with rfl|rfl
    ·exact rev_no _
    ·exact flt_no _ sp (by decide) (by decide)
   ·have hr:rk=4\/rk=5:=by omega
    subst ham
    rcases hr with rfl|rfl
    ·show Rd.revise 4 ⟨s,[fl.fmt],false⟩=_
     unfold Rd.revise
     simp only[flight_w (flt_ne b1)]
     rw[if_neg (by decide),hx]
    ·show Rd.revise 5 ⟨s,[fl.fmt],false⟩=_
     unfold Rd.revise
     simp only[flight_w (flt_ne b1)]
     rw[if_neg (by decide),hx]
  ·rw[if_neg c4] at hf hs
   obtain⟨a0,b0,d0⟩:=wNum_ok hf
   obtain⟨a1,b1,c1⟩:=wWord_ok a0
   obtain⟨a2,b2,c2⟩:=wWord_ok a1
   rw[d0,c1,c2] at hs
   have hs:s=join [revN rk,fl.fmt,decW am] [32]:=hs
   refine parse_of h hs (by simp) (fun w hw=>?_) ?_
   ·simp only[List.mem_cons,List.not_mem_nil,or_false] at hw
    rcases hw with rfl|rfl|rfl
    ·exact rev_no _
    ·exact flt_no _ sp (by decide) (by decide)
    ·exact decW_no _ sp
   ·have hr:rk=1\/rk=2\/rk=3:=by omega
    rcases hr with rfl|rfl|rfl
    ·show Rd.revise 1 ⟨s,[fl.fmt,decW am],false⟩=_
     unfold Rd.revise
     simp only[flight_w (flt_ne b1),number_w b0]
     rw[if_pos (by decide),hx]
    ·show Rd.revise 2 ⟨s,[fl.fmt,decW am],false⟩=_
     unfold Rd.revise
     simp only[flight_w (flt_ne b1),number_w b0]
     rw[if_pos (by decide),hx]
    ·show Rd.revise 3 ⟨s,[fl.fmt,decW am],false⟩=_
     unfold Rd.revise
     simp only[flight_w (flt_ne b1),number_w b0]
     rw[if_pos (by decide),hx]
 ·rw[if_neg c0] at hf
  cases hf
theorem line_parse {x:Acx} {s:Bs} (h:lineS x=some s):parseS s=some x:=by
 have h':=h
 unfold lineS at h'
 split at h'
 ·rename_i hc
  obtain⟨k1,k2,ho,hf⟩:=hc
  have hs:s=join (wAct ([],false) x).1 [32]:=(Option.some.inj h').symm
  clear h'
  have hk:x.k=1\/x.k=2\/x.k=3\/x.k=4\/x.k=5\/x.k=6\/x.k=7\/x.k=8\/x.k=9\/x.k=10\/x.k=11\/x.k=12\/x.k=13\/x.k=14:=by omega
  rcases hk with hk|hk|hk|hk|hk|hk|hk|hk|hk|hk|hk|hk|hk|hk
  ·exact line_1 hk ho h hf hs
  ·exact line_2 hk ho h hf hs
  ·exact line_3 hk ho h hf hs
  ·exact line_4 hk ho h hf hs
  ·exact line_5 hk ho h hf hs
  ·exact line_6 hk ho h hf hs
  ·exact line_7 hk ho h hf hs
  ·exact line_8 hk ho h hf hs
  ·exact line_9 hk ho h hf hs
  ·exact line_10 hk ho h hf hs
  ·exact line_11 hk ho h hf hs
  ·exact line_12 hk ho h hf hs
  ·exact line_13 hk ho h hf hs
  ·exact line_14 hk ho h hf hs
 ·cases h'
theorem parse_line {x:Acx} {s:Bs} (h:parseS s=some x):lineS x=some s:=by
 unfold parseS at h
 split at h
 ·rename_i hc
  injection h with h
  rw[<-h];exact hc.2.2
 ·cases h
end Go.Scr
namespace Go.Proofs.YtokkbonoplbiaaaGreatDoor
open Go Go.Sym Go.Scr Go.Lib
def Nc (c:UInt8) (w:Wr):Prop:=∀s∈w.1,c∉s
theorem Nc.word {c:UInt8} {w:Wr} (h:Nc c w) {s:Bs} (hs:c∉s):Nc c (wWord w s):=by
 intro x hx
 rcases List.mem_append.1 hx with hx|hx
 ·exact h x hx
 ·rw[List.mem_singleton.1 hx];exact hs
theorem Nc.nums {c:UInt8} (hc:digit c=false):∀{l:List Int} {w:Wr},Nc c w->Nc c (wNums w l)
 |[],_,h=>h
 |n::l,_,h=>Nc.nums hc (l:=l) (h.word (decW_no n hc))
theorem Nc.faults {c:UInt8} (hc:∀f,c∉wFault f) {lo hi:Int}:∀{l:List Flaw} {w:Wr},Nc c w->Nc c (wFaults lo hi l w)
 |[],_,h=>h
 |f::r,w,h=>by
  rw[wFaults]
  split
  ·exact Nc.faults hc (h.word (hc f))
  ·exact h
theorem Nc.rev {c:UInt8} (hc:digit c=false) (hl:letter c=false) (h47:c≠47) (hr:∀k,c∉revN k) {w:Wr} (h:Nc c w) (r:Rev):Nc c (wRev w r):=by
 have a:Nc c (wWord (wWord w (revN r.k)) r.flt.fmt):=(h.word (hr _)).word (flt_no _ hc hl h47)
 unfold wRev
 split
 ·split
  ·exact a
  ·exact a.nums hc
 ·exact h
theorem faultN_no10 (k:Int):(10:UInt8)∉faultN k:=by
 unfold faultN
 repeat' split
 all_goals decide
theorem revN_no10 (k:Int):(10:UInt8)∉revN k:=by
 unfold revN
 repeat' split
 all_goals decide
theorem wFault_no10 (f:Flaw):(10:UInt8)∉wFault f:=by
 unfold wFault
 intro h
 simp only[List.mem_append,List.mem_singleton] at h
 rcases h with (((h|h)|h)|h)|h
 ·exact faultN_no10 _ h
 ·exact absurd h (by decide)
 ·exact decW_no _ (by decide) h
 ·exact absurd h (by decide)
 ·exact decW_no _ (by decide) h
theorem Nc.act {c:UInt8} (h:c=10\/c=32) {w:Wr} (hw:Nc c w) (x:Acx) (ht:c∉swapB 10 124 x.txt):Nc c (wAct w x):=by
 have hc:digit c=false:=by rcases h with rfl|rfl<;>decide
 have hl:letter c=false:=by rcases h with rfl|rfl<;>decide
 have h47:c≠47:=by rcases h with rfl|rfl<;>decide
 have hr:∀k,c∉revN k:=fun k=>by
  rcases h with rfl|rfl
  ·exact revN_no10 k
  ·exact rev_no k
 have hf:∀f,c∉wFault f:=fun f=>by
  rcases h with rfl|rfl
  ·exact wFault_no10 f
  ·exact wFault_no f
 refine wAct_by (p:=Nc c) ?_ ?_ ?_ ?_ ?_ ?_ ?_ ?_ ?_ ?_ ?_ ?_ ?_ ?_
 ·refine Nc.faults hf (Nc.faults hf ?_)
  split
  ·exact(hw.word (by rcases h with rfl|rfl<;>decide)).word (by rcases h with rfl|rfl<;>decide)
  ·exact hw.word (by rcases h with rfl|rfl<;>decide)
 ·exact((hw.word (by rcases h with rfl|rfl<;>decide)).word (plt_no _ hc)).nums hc
 ·intro s hs
  rcases List.mem_append.1 hs with hs|hs
  ·exact(hw.word (by rcases h with rfl|rfl<;>decide)) s hs
  ·rw[List.mem_singleton.1 hs];exact ht
 ·refine Nc.word ((hw.word (by rcases h with rfl|rfl<;>decide)).nums hc) ?_
  split
  ·rcases h with rfl|rfl<;>decide
  ·rcases h with rfl|rfl<;>decide
 ·exact hw.rev hc hl h47 hr _
 ·exact(hw.word (by rcases h with rfl|rfl<;>decide)).nums hc
 ·exact(hw.word (by rcases h with rfl|rfl<;>decide)).nums hc
 ·exact(((hw.word (by rcases h with rfl|rfl<;>decide)).nums hc).word (plt_no _ hc)).nums hc
 ·exact(((hw.word (by rcases h with rfl|rfl<;>decide)).nums hc).word (plt_no _ hc)).nums hc
 ·exact((hw.word (by rcases h with rfl|rfl<;>decide)).word (plt_no _ hc)).nums hc
 ·exact(hw.word (by rcases h with rfl|rfl<;>decide)).nums hc
 ·exact(hw.word (by rcases h with rfl|rfl<;>decide)).nums hc
 ·exact(hw.word (by rcases h with rfl|rfl<;>decide)).word (flt_no _ hc hl h47)
 ·exact hw.word (by rcases h with rfl|rfl<;>decide)
theorem line_eq {x:Acx} {s:Bs} (h:lineS x=some s):s=Lib.join (wAct ([],false) x).1 [32]:=by
 unfold lineS at h
 split at h
 ·exact(Option.some.inj h).symm
 ·cases h
open Go.Scr
theorem rcar_sat (s:Bs) (hs:s.length<=1000000):SatG Tryz.prog tab 112 [] [S (strOf s)] [] (B (carB s)):=by
 by_cases c0:s.length=2
 ·obtain⟨x,y,rfl⟩:∃x y,s=[x,y]:=by
   match s,c0 with
   |[x,y],_=>exact⟨x,y,rfl⟩
  have hc:carB [x,y]=((letter x||digit x)&&(letter y||digit y)&&(letter x||letter y)):=by simp[carB,Bool.and_assoc]
  have a0:=rlet_sat x
  have a1:=rlet_sat y
  have d0:=rdig_sat x
  have d1:=rdig_sat y
  have i0:([x,y]:Bs).getD 0 0=x:=rfl
  have i1:([x,y]:Bs).getD 1 0=y:=rfl
  rw[hc]
  refine uFN Tryz.func112 Tryz.ntmps112 ?_;intro w e X hC
  repeat refine uA ?_
  refine uF ?_
  cases la:letter x with
  |true=>
   rw[la] at a0
   cases lb:letter y with
   |true=>
    rw[lb] at a1
    refine uD1 (uI @i0 @i1) ?_;intro K hK
    refine uH ?_
    refine callF uTS (a0) uTS uTS uTS ?_;refine uS ?_
    try refine uS1 (uI @i0 @i1) ?_
    refine uH ?_
    refine callF uTS (a1) uTS uTS uTS ?_;refine uS ?_
    refine uH ?_
    refine hK _ ?_;clear hK K
    refine uR1 (uI @i0 @i1) ?_;intro K hK
    refine uH ?_
    refine hK _ ?_;clear hK K
    (refine awp_ret (ret1 uRT ?_);try rfl)
   |false=>
    rw[lb] at a1
    cases lc:digit y with
    |true=>
     rw[lc] at d1
     refine uD1 (uI @i0 @i1) ?_;intro K hK
     refine uH ?_
     refine callF uTS (a0) uTS uTS uTS ?_;refine uS ?_
     try refine uS1 (uI @i0 @i1) ?_
     refine uH ?_
     refine callF uTS (a1) uTS uTS uTS ?_;refine uS ?_
     refine uH ?_
     refine hK _ ?_;clear hK K
     refine uR1 (uI @i0 @i1) ?_;intro K hK
     refine uH ?_
     refine callF uTS (d1) uTS uTS uTS ?_;refine uS ?_
     try refine uS1 (uI @i0 @i1) ?_
     refine uH ?_
     refine hK _ ?_;clear hK K
     (refine awp_ret (ret1 uRT ?_);try rfl)
    |false=>
     rw[lc] at d1
     refine uD1 (uI @i0 @i1) ?_;intro K hK
     refine uH ?_
     refine callF uTS (a0) uTS uTS uTS ?_;refine uS ?_
     try refine uS1 (uI @i0 @i1) ?_
     refine uH ?_
     refine callF uTS (a1) uTS uTS uTS ?_;refine uS ?_
     refine uH ?_
     refine hK _ ?_;clear hK K
     refine uR1 (uI @i0 @i1) ?_;intro K hK
     refine uH ?_
     refine callF uTS (d1) uTS uTS uTS ?_;refine uS ?_
     try refine uS1 (uI @i0 @i1) ?_
     refine uH ?_
     refine hK _ ?_;clear hK K
     (refine awp_ret (ret1 uRT ?_);try rfl)
  |false=>
   rw[la] at a0
   cases lb:letter y with
   |true=>
    rw[lb] at a1
    cases ld:digit x with
    |true=>
     rw[ld] at d0
     refine uD1 (uI @i0 @i1) ?_;intro K hK
     refine uH ?_
     refine callF uTS (a0) uTS uTS uTS ?_;refine uS ?_
     try refine uS1 (uI @i0 @i1) ?_
     refine uH ?_
     refine callF uTS (a1) uTS uTS uTS ?_;refine uS ?_
     refine uH ?_
     refine hK _ ?_;clear hK K
     refine uR1 (uI @i0 @i1) ?_;intro K hK
     refine uH ?_
     refine callF uTS (d0) uTS uTS uTS ?_;refine uS ?_
     try refine uS1 (uI @i0 @i1) ?_
     refine uH ?_
     refine hK _ ?_;clear hK K
     (refine awp_ret (ret1 uRT ?_);try rfl)
    |false=>
     rw[ld] at d0
     refine uD1 (uI @i0 @i1) ?_;intro K hK
     refine uH ?_
     refine callF uTS (a0) uTS uTS uTS ?_;refine uS ?_
     try refine uS1 (uI @i0 @i1) ?_
     refine uH ?_
     refine callF uTS (a1) uTS uTS uTS ?_;refine uS ?_
     refine uH ?_
     refine hK _ ?_;clear hK K
     refine uR1 (uI @i0 @i1) ?_;intro K hK
     refine uH ?_
     refine callF uTS (d0) uTS uTS uTS ?_;refine uS ?_
     try refine uS1 (uI @i0 @i1) ?_
     refine uH ?_
     refine hK _ ?_;clear hK K
     (refine awp_ret (ret1 uRT ?_);try rfl)
   |false=>
    rw[lb] at a1
    cases ld:digit x with
    |true=>
     rw[ld] at d0
     cases lc:digit y with
     |true=>
      rw[lc] at d1
      refine uD1 (uI @i0 @i1) ?_;intro K hK
      refine uH ?_
      refine callF uTS (a0) uTS uTS uTS ?_;refine uS ?_
      try refine uS1 (uI @i0 @i1) ?_
      refine uH ?_
      refine callF uTS (a1) uTS uTS uTS ?_;refine uS ?_
      refine uH ?_
      refine hK _ ?_;clear hK K
      refine uR1 (uI @i0 @i1) ?_;intro K hK
      refine uH ?_
      refine callF uTS (d0) uTS uTS uTS ?_;refine uS ?_
      try refine uS1 (uI @i0 @i1) ?_
      refine uH ?_
      refine callF uTS (d1) uTS uTS uTS ?_;refine uS ?_
      try refine uS1 (uI @i0 @i1) ?_
      refine uH ?_
      refine hK _ ?_;clear hK K
      (refine awp_ret (ret1 uRT ?_);try rfl)
     |false=>
      rw[lc] at d1
      refine uD1 (uI @i0 @i1) ?_;intro K hK
      refine uH ?_
      refine callF uTS (a0) uTS uTS uTS ?_;refine uS ?_
      try refine uS1 (uI @i0 @i1) ?_
      refine uH ?_
      refine callF uTS (a1) uTS uTS uTS ?_;refine uS ?_
      refine uH ?_
      refine hK _ ?_;clear hK K
      refine uR1 (uI @i0 @i1) ?_;intro K hK
      refine uH ?_
      refine callF uTS (d0) uTS uTS uTS ?_;refine uS ?_
      try refine uS1 (uI @i0 @i1) ?_
      refine uH ?_
      refine callF uTS (d1) uTS uTS uTS ?_;refine uS ?_
      try refine uS1 (uI @i0 @i1) ?_
      refine uH ?_
      refine hK _ ?_;clear hK K
      (refine awp_ret (ret1 uRT ?_);try rfl)
    |false=>
     rw[ld] at d0
     refine uD1 (uI @i0 @i1) ?_;intro K hK
     refine uH ?_
     refine callF uTS (a0) uTS uTS uTS ?_;refine uS ?_
     try refine uS1 (uI @i0 @i1) ?_
     refine uH ?_
     refine callF uTS (a1) uTS uTS uTS ?_;refine uS ?_
     refine uH ?_
     refine hK _ ?_;clear hK K
     refine uR1 (uI @i0 @i1) ?_;intro K hK
     refine uH ?_
     refine callF uTS (d0) uTS uTS uTS ?_;refine uS ?_
     try refine uS1 (uI @i0 @i1) ?_
     refine uH ?_
     refine hK _ ?_;clear hK K
     (refine awp_ret (ret1 uRT ?_);try rfl)
 ·have hc:carB s=false:=by
   unfold carB
   rw[decide_eq_false (show ¬s.length=2 by omega)];rfl
  rw[hc]
  have e0:(decide ¬((s.length:Nat):Int)=2)=true:=decide_eq_true (by omega)
  refine uFN Tryz.func112 Tryz.ntmps112 ?_;intro w e X hC
  repeat refine uA1 @e0 ?_
  refine uT ?_
  repeat refine uA ?_
  (refine awp_ret (ret1 uRT ?_);try rfl)
theorem rsuf_sat (s:Bs) (hs:s.length<=1000000):SatG Tryz.prog tab 113 [] [S (strOf s)] [] (B (sufB s)):=by
 match s,hs with
 |[],_=>
  have e0:decide (strOf []=strOf [])=true:=decide_eq_true rfl
  refine uFN Tryz.func113 Tryz.ntmps113 ?_;intro w e X hC
  repeat refine uA ?_
  (refine awp_ret (ret1 uRT ?_);try rfl)
 |[x],_=>
  have hc:sufB [x]=letter x:=by simp[sufB]
  have a0:=rlet_sat x
  have i0:([x]:Bs).getD 0 0=x:=rfl
  rw[hc]
  refine uFN Tryz.func113 Tryz.ntmps113 ?_;intro w e X hC
  have e1:decide (((1:Nat):Int)=1)=true:=rfl
  refine uA ?_
  refine uR1 (uI @i0 @e1) ?_;intro K hK
  refine uH ?_
  refine callF uTS (a0) uTS uTS uTS ?_;refine uS ?_
  refine uH ?_
  refine hK _ ?_;clear hK K
  (refine awp_ret (ret1 uRT ?_);try rfl)
 |x::y::r,hs=>
  have hc:sufB (x::y::r)=false:=by
   unfold sufB
   rw[decide_eq_false (by simp)];rfl
  rw[hc]
  refine uFN Tryz.func113 Tryz.ntmps113 ?_;intro w e X hC
  have e2:=uDf (((r.length+2:Nat):Int)=1)
  repeat refine uA1 @e2 ?_
  (refine awp_ret (ret1 uRT ?_);try rfl)
theorem rfvalid_sat (f:Flt) (h1:f.car.length<=1000000) (h2:f.suf.length<=1000000):SatG Tryz.prog tab 69 [] [Flt.av f] [] (B f.ok):=by
 have g0:=rcar_sat f.car h1
 have g3:=rsuf_sat f.suf h2
 have hok:f.ok=(carB f.car&&(decide (1<=f.num)&&(decide (f.num<=9999)&&(sufB f.suf&&(decide (0<=f.day)&&decide (f.day<=99)))))):=by
  unfold Flt.ok
  simp only[Bool.decide_and,Bool.and_assoc]
 rw[hok]
 refine uFN Tryz.func69 Tryz.ntmps69 ?_;intro w e X hC
 repeat refine uA ?_
 cases e0:carB f.car with
 |false=>
  rw[e0] at g0
  refine uR ?_;intro K hK
  refine uH ?_
  refine callF uTS (g0) uTS uTS uTS ?_;refine uS ?_
  try refine uS ?_
  refine uH ?_
  refine hK _ ?_;clear hK K
  (refine awp_ret (ret1 uRT ?_);try rfl)
 |true=>
  rw[e0] at g0
  cases e1:decide (1<=f.num) with
  |false=>
   refine uR1 @e1 ?_;intro K hK
   refine uH ?_
   refine callF uTS (g0) uTS uTS uTS ?_;refine uS ?_
   try refine uS1 @e1 ?_
   refine uH ?_
   refine hK _ ?_;clear hK K
   (refine awp_ret (ret1 uRT ?_);try rfl)
  |true=>
   cases e2:decide (f.num<=9999) with
   |false=>
    refine uR1 (uI @e1 @e2) ?_;intro K hK
    refine uH ?_
    refine callF uTS (g0) uTS uTS uTS ?_;refine uS ?_
    try refine uS1 (uI @e1 @e2) ?_
    refine uH ?_
    refine hK _ ?_;clear hK K
    (refine awp_ret (ret1 uRT ?_);try rfl)
   |true=>
    cases e3:sufB f.suf with
    |false=>
     rw[e3] at g3
     refine uR1 (uI @e1 @e2) ?_;intro K hK
     refine uH ?_
     refine callF uTS (g0) uTS uTS uTS ?_;refine uS ?_
     try refine uS1 (uI @e1 @e2) ?_
     refine uH ?_
     refine callF uTS (g3) uTS uTS uTS ?_;refine uS ?_
     try refine uS1 (uI @e1 @e2) ?_
     refine uH ?_
     refine hK _ ?_;clear hK K
     (refine awp_ret (ret1 uRT ?_);try rfl)
    |true=>
     rw[e3] at g3
     cases e4:decide (0<=f.day) with
     |false=>
      refine uR1 (uI @e1 (uI @e2 @e4)) ?_;intro K hK
      refine uH ?_
      refine callF uTS (g0) uTS uTS uTS ?_;refine uS ?_
      try refine uS1 (uI @e1 (uI @e2 @e4)) ?_
      refine uH ?_
      refine callF uTS (g3) uTS uTS uTS ?_;refine uS ?_
      try refine uS1 (uI @e1 (uI @e2 @e4)) ?_
      refine uH ?_
      refine hK _ ?_;clear hK K
      (refine awp_ret (ret1 uRT ?_);try rfl)
     |true=>
      cases e5:decide (f.day<=99) with
      |false=>
       refine uR1 (uI @e1 (uI @e2 (uI @e4 @e5))) ?_;intro K hK
       refine uH ?_
       refine callF uTS (g0) uTS uTS uTS ?_;refine uS ?_
       try refine uS1 (uI @e1 (uI @e2 (uI @e4 @e5))) ?_
       refine uH ?_
       refine callF uTS (g3) uTS uTS uTS ?_;refine uS ?_
       try refine uS1 (uI @e1 (uI @e2 (uI @e4 @e5))) ?_
       refine uH ?_
       refine hK _ ?_;clear hK K
       (refine awp_ret (ret1 uRT ?_);try rfl)
      |true=>
       refine uR1 (uI @e1 (uI @e2 (uI @e4 @e5))) ?_;intro K hK
       refine uH ?_
       refine callF uTS (g0) uTS uTS uTS ?_;refine uS ?_
       try refine uS1 (uI @e1 (uI @e2 (uI @e4 @e5))) ?_
       refine uH ?_
       refine callF uTS (g3) uTS uTS uTS ?_;refine uS ?_
       try refine uS1 (uI @e1 (uI @e2 (uI @e4 @e5))) ?_
       refine uH ?_
       refine hK _ ?_;clear hK K
       (refine awp_ret (ret1 uRT ?_);try rfl)
open Go.Scr
theorem rsameF_sat (a b:List Flaw) (ha:a.length<=1000000) (hb:b.length<=1000000):SatG Tryz.prog tab 46 [] [.sl (flaws a) false, .sl (flaws b) false] [] (B (decide (a=b))):=by
 have hno:¬a=b->B (decide (a=b))=B false:=fun h=>by rw[decide_eq_false h]
 refine uFN Tryz.func46 Tryz.ntmps46 ?_;intro w e X hC
 refine uA ?_
 refine uA ?_
 refine uW ?_;refine condP _ rfl (fun c1=>?_) (fun c1=>?_)
 ·rw[hno fun h=>c1 (by rw[h])]
  repeat refine uA ?_
  (refine awp_ret (ret1 uRT ?_);try rfl)
 ·have c1:a.length=b.length:=by omega
  refine uA ?_
  refine uW ?_
  refine awp_loopW (fun i:Nat×Nat=>⟨[(0, .sl (flaws a) false),(1, .sl (flaws b) false),(5,I i.2)],[],i.1⟩) (fun i=>i.2<=a.length/\∀j,j<i.2->a.getD j default=b.getD j default) (fun i=>a.length - i.2) (_,0) ⟨Nat.zero_le _,fun j hj=>absurd hj (Nat.not_lt_zero _)⟩ (uKF) ?_
  rintro⟨ck,i⟩ ⟨hi,hj⟩
  simp only at hi hj
  refine uA ?_
  refine uW ?_;refine condP _ rfl (fun h=>?_) (fun h=>?_)
  ·have hlt:i<a.length:=by omega
   have hlt2:i<b.length:=by omega
   have he:=flaw_beq (a.getD i default) (b.getD i default)
   by_cases c3:a.getD i default=b.getD i default
   ·rw[decide_eq_true c3] at he
    refine uK1 (uI (flaws_getD hlt) (uI (flaws_getD hlt2) @he)) ?_
    refine uF ?_
    repeat refine uA ?_
    refine⟨(_,i+1),⟨by simp only;omega,fun j hj'=>?_⟩,by simp only;omega,uKF⟩
    by_cases hji:j=i
    ·subst hji;exact c3
    ·exact hj j (by simp only at hj';omega)
   ·rw[decide_eq_false c3] at he
    refine uK1 (uI (flaws_getD hlt) (uI (flaws_getD hlt2) @he)) ?_
    refine uT ?_
    rw[hno fun h=>c3 (by rw[h])]
    repeat refine uA ?_
    (refine awp_ret (ret1 uRT ?_);try rfl)
  ·refine awp_exit ?_
   have hs:a=b:=eqL_getD c1 fun j h=>hj j (by omega)
   rw[decide_eq_true hs]
   repeat refine uA ?_
   (refine awp_ret (ret1 uRT ?_);try rfl)
set_option maxRecDepth 10000 in
theorem rsame_0 (a b:Acx) (hamv:a.mv.length<=1000000) (hbmv:b.mv.length<=1000000) (hagl:a.gl.length<=1000000) (hbgl:b.gl.length<=1000000) (h0:¬a.k=b.k):SatG Tryz.prog tab 18 [] [a.av,b.av] [] (B false):=by
 have d0:decide (a.k=b.k)=false:=decide_eq_false h0
 refine uFN Tryz.func18 Tryz.ntmps18 ?_;intro w e X hC
 refine uA ?_
 refine uR1 (uI @d0 @List.append_eq.{0}) ?_;intro K hK
 refine hK _ ?_;clear hK K
 (refine awp_ret (ret1 uRT ?_);try rfl)
set_option maxRecDepth 10000 in
theorem rsame_1 (a b:Acx) (hamv:a.mv.length<=1000000) (hbmv:b.mv.length<=1000000) (hagl:a.gl.length<=1000000) (hbgl:b.gl.length<=1000000) (h0:a.k=b.k) (h1:¬a.lost=b.lost):SatG Tryz.prog tab 18 [] [a.av,b.av] [] (B false):=by
 have d0:decide (a.k=b.k)=true:=decide_eq_true h0
 have d1:(a.lost==b.lost)=false:=beq_eq_false_iff_ne.2 h1
 refine uFN Tryz.func18 Tryz.ntmps18 ?_;intro w e X hC
 refine uA ?_
 refine uR1 (uI @d0 (uI @d1 @List.append_eq.{0})) ?_;intro K hK
 refine hK _ ?_;clear hK K
 (refine awp_ret (ret1 uRT ?_);try rfl)
set_option maxRecDepth 10000 in
theorem rsame_2 (a b:Acx) (hamv:a.mv.length<=1000000) (hbmv:b.mv.length<=1000000) (hagl:a.gl.length<=1000000) (hbgl:b.gl.length<=1000000) (h0:a.k=b.k) (h1:a.lost=b.lost) (h2:¬a.plt=b.plt):SatG Tryz.prog tab 18 [] [a.av,b.av] [] (B false):=by
 have d0:decide (a.k=b.k)=true:=decide_eq_true h0
 have d1:(a.lost==b.lost)=true:=by rw[h1];exact beq_self_eq_true _
 have d2:=plt_beq a.plt b.plt
 rw[decide_eq_false h2] at d2
 refine uFN Tryz.func18 Tryz.ntmps18 ?_;intro w e X hC
 refine uA ?_
 refine uR1 (uI @d0 (uI @d1 (uI @d2 @List.append_eq.{0}))) ?_;intro K hK
 refine hK _ ?_;clear hK K
 (refine awp_ret (ret1 uRT ?_);try rfl)
set_option maxRecDepth 10000 in
theorem rsame_3 (a b:Acx) (hamv:a.mv.length<=1000000) (hbmv:b.mv.length<=1000000) (hagl:a.gl.length<=1000000) (hbgl:b.gl.length<=1000000) (h0:a.k=b.k) (h1:a.lost=b.lost) (h2:a.plt=b.plt) (h3:¬a.node=b.node):SatG Tryz.prog tab 18 [] [a.av,b.av] [] (B false):=by
 have d0:decide (a.k=b.k)=true:=decide_eq_true h0
 have d1:(a.lost==b.lost)=true:=by rw[h1];exact beq_self_eq_true _
 have d2:=plt_beq a.plt b.plt
 rw[decide_eq_true h2] at d2
 have d3:decide (a.node=b.node)=false:=decide_eq_false h3
 refine uFN Tryz.func18 Tryz.ntmps18 ?_;intro w e X hC
 refine uA ?_
 refine uR1 (uI @d0 (uI @d1 (uI @d2 (uI @d3 @List.append_eq.{0})))) ?_;intro K hK
 refine hK _ ?_;clear hK K
 (refine awp_ret (ret1 uRT ?_);try rfl)
set_option maxRecDepth 10000 in
theorem rsame_4 (a b:Acx) (hamv:a.mv.length<=1000000) (hbmv:b.mv.length<=1000000) (hagl:a.gl.length<=1000000) (hbgl:b.gl.length<=1000000) (h0:a.k=b.k) (h1:a.lost=b.lost) (h2:a.plt=b.plt) (h3:a.node=b.node) (h4:¬a.img=b.img):SatG Tryz.prog tab 18 [] [a.av,b.av] [] (B false):=by
 have d0:decide (a.k=b.k)=true:=decide_eq_true h0
 have d1:(a.lost==b.lost)=true:=by rw[h1];exact beq_self_eq_true _
 have d2:=plt_beq a.plt b.plt
 rw[decide_eq_true h2] at d2
 have d3:decide (a.node=b.node)=true:=decide_eq_true h3
 have d4:decide (a.img=b.img)=false:=decide_eq_false h4
 refine uFN Tryz.func18 Tryz.ntmps18 ?_;intro w e X hC
 refine uA ?_
 refine uR1 (uI @d0 (uI @d1 (uI @d2 (uI @d3 (uI @d4 @List.append_eq.{0}))))) ?_;intro K hK
 refine hK _ ?_;clear hK K
 (refine awp_ret (ret1 uRT ?_);try rfl)
set_option maxRecDepth 10000 in
theorem rsame_5 (a b:Acx) (hamv:a.mv.length<=1000000) (hbmv:b.mv.length<=1000000) (hagl:a.gl.length<=1000000) (hbgl:b.gl.length<=1000000) (h0:a.k=b.k) (h1:a.lost=b.lost) (h2:a.plt=b.plt) (h3:a.node=b.node) (h4:a.img=b.img) (h5:¬a.clr=b.clr):SatG Tryz.prog tab 18 [] [a.av,b.av] [] (B false):=by
 have d0:decide (a.k=b.k)=true:=decide_eq_true h0
 have d1:(a.lost==b.lost)=true:=by rw[h1];exact beq_self_eq_true _
 have d2:=plt_beq a.plt b.plt
 rw[decide_eq_true h2] at d2
 have d3:decide (a.node=b.node)=true:=decide_eq_true h3
 have d4:decide (a.img=b.img)=true:=decide_eq_true h4
 have d5:(a.clr==b.clr)=false:=beq_eq_false_iff_ne.2 h5
 refine uFN Tryz.func18 Tryz.ntmps18 ?_;intro w e X hC
 refine uA ?_
 refine uR1 (uI @d0 (uI @d1 (uI @d2 (uI @d3 (uI @d4 (uI @d5 @List.append_eq.{0})))))) ?_;intro K hK
 refine hK _ ?_;clear hK K
 (refine awp_ret (ret1 uRT ?_);try rfl)
set_option maxRecDepth 10000 in
theorem rsame_6 (a b:Acx) (hamv:a.mv.length<=1000000) (hbmv:b.mv.length<=1000000) (hagl:a.gl.length<=1000000) (hbgl:b.gl.length<=1000000) (h0:a.k=b.k) (h1:a.lost=b.lost) (h2:a.plt=b.plt) (h3:a.node=b.node) (h4:a.img=b.img) (h5:a.clr=b.clr) (h6:¬a.txt=b.txt):SatG Tryz.prog tab 18 [] [a.av,b.av] [] (B false):=by
 have d0:decide (a.k=b.k)=true:=decide_eq_true h0
 have d1:(a.lost==b.lost)=true:=by rw[h1];exact beq_self_eq_true _
 have d2:=plt_beq a.plt b.plt
 rw[decide_eq_true h2] at d2
 have d3:decide (a.node=b.node)=true:=decide_eq_true h3
 have d4:decide (a.img=b.img)=true:=decide_eq_true h4
 have d5:(a.clr==b.clr)=true:=by rw[h5];exact beq_self_eq_true _
 have d6:decide (a.txt=b.txt)=false:=decide_eq_false h6
 refine uFN Tryz.func18 Tryz.ntmps18 ?_;intro w e X hC
 refine uA ?_
 refine uR1 (uI @d0 (uI @d1 (uI @d2 (uI @d3 (uI @d4 (uI @d5 (uI @d6 @List.append_eq.{0}))))))) ?_;intro K hK
 refine hK _ ?_;clear hK K
 (refine awp_ret (ret1 uRT ?_);try rfl)
set_option maxRecDepth 10000 in
theorem rsame_7 (a b:Acx) (hamv:a.mv.length<=1000000) (hbmv:b.mv.length<=1000000) (hagl:a.gl.length<=1000000) (hbgl:b.gl.length<=1000000) (h0:a.k=b.k) (h1:a.lost=b.lost) (h2:a.plt=b.plt) (h3:a.node=b.node) (h4:a.img=b.img) (h5:a.clr=b.clr) (h6:a.txt=b.txt) (h7:¬a.rev=b.rev):SatG Tryz.prog tab 18 [] [a.av,b.av] [] (B false):=by
 have d0:decide (a.k=b.k)=true:=decide_eq_true h0
 have d1:(a.lost==b.lost)=true:=by rw[h1];exact beq_self_eq_true _
 have d2:=plt_beq a.plt b.plt
 rw[decide_eq_true h2] at d2
 have d3:decide (a.node=b.node)=true:=decide_eq_true h3
 have d4:decide (a.img=b.img)=true:=decide_eq_true h4
 have d5:(a.clr==b.clr)=true:=by rw[h5];exact beq_self_eq_true _
 have d6:decide (a.txt=b.txt)=true:=decide_eq_true h6
 have d7:=rev_beq a.rev b.rev
 rw[decide_eq_false h7] at d7
 refine uFN Tryz.func18 Tryz.ntmps18 ?_;intro w e X hC
 refine uA ?_
 refine uR1 (uI @d0 (uI @d1 (uI @d2 (uI @d3 (uI @d4 (uI @d5 (uI @d6 (uI @d7 @List.append_eq.{0})))))))) ?_;intro K hK
 refine hK _ ?_;clear hK K
 (refine awp_ret (ret1 uRT ?_);try rfl)
set_option maxRecDepth 10000 in
theorem rsame_8 (a b:Acx) (hamv:a.mv.length<=1000000) (hbmv:b.mv.length<=1000000) (hagl:a.gl.length<=1000000) (hbgl:b.gl.length<=1000000) (h0:a.k=b.k) (h1:a.lost=b.lost) (h2:a.plt=b.plt) (h3:a.node=b.node) (h4:a.img=b.img) (h5:a.clr=b.clr) (h6:a.txt=b.txt) (h7:a.rev=b.rev) (h8:¬a.dev=b.dev):SatG Tryz.prog tab 18 [] [a.av,b.av] [] (B false):=by
 have d0:decide (a.k=b.k)=true:=decide_eq_true h0
 have d1:(a.lost==b.lost)=true:=by rw[h1];exact beq_self_eq_true _
 have d2:=plt_beq a.plt b.plt
 rw[decide_eq_true h2] at d2
 have d3:decide (a.node=b.node)=true:=decide_eq_true h3
 have d4:decide (a.img=b.img)=true:=decide_eq_true h4
 have d5:(a.clr==b.clr)=true:=by rw[h5];exact beq_self_eq_true _
 have d6:decide (a.txt=b.txt)=true:=decide_eq_true h6
 have d7:=rev_beq a.rev b.rev
 rw[decide_eq_true h7] at d7
 have d8:decide (a.dev=b.dev)=false:=decide_eq_false h8
 refine uFN Tryz.func18 Tryz.ntmps18 ?_;intro w e X hC
 refine uA ?_
 refine uR1 (uI @d0 (uI @d1 (uI @d2 (uI @d3 (uI @d4 (uI @d5 (uI @d6 (uI @d7 (uI @d8 @List.append_eq.{0}))))))))) ?_;intro K hK
 refine hK _ ?_;clear hK K
 (refine awp_ret (ret1 uRT ?_);try rfl)
set_option maxRecDepth 10000 in
theorem rsame_9 (a b:Acx) (hamv:a.mv.length<=1000000) (hbmv:b.mv.length<=1000000) (hagl:a.gl.length<=1000000) (hbgl:b.gl.length<=1000000) (h0:a.k=b.k) (h1:a.lost=b.lost) (h2:a.plt=b.plt) (h3:a.node=b.node) (h4:a.img=b.img) (h5:a.clr=b.clr) (h6:a.txt=b.txt) (h7:a.rev=b.rev) (h8:a.dev=b.dev) (h9:¬a.con=b.con):SatG Tryz.prog tab 18 [] [a.av,b.av] [] (B false):=by
 have d0:decide (a.k=b.k)=true:=decide_eq_true h0
 have d1:(a.lost==b.lost)=true:=by rw[h1];exact beq_self_eq_true _
 have d2:=plt_beq a.plt b.plt
 rw[decide_eq_true h2] at d2
 have d3:decide (a.node=b.node)=true:=decide_eq_true h3
 have d4:decide (a.img=b.img)=true:=decide_eq_true h4
 have d5:(a.clr==b.clr)=true:=by rw[h5];exact beq_self_eq_true _
 have d6:decide (a.txt=b.txt)=true:=decide_eq_true h6
 have d7:=rev_beq a.rev b.rev
 rw[decide_eq_true h7] at d7
 have d8:decide (a.dev=b.dev)=true:=decide_eq_true h8
 have d9:decide (a.con=b.con)=false:=decide_eq_false h9
 refine uFN Tryz.func18 Tryz.ntmps18 ?_;intro w e X hC
 refine uA ?_
 refine uR1 (uI @d0 (uI @d1 (uI @d2 (uI @d3 (uI @d4 (uI @d5 (uI @d6 (uI @d7 (uI @d8 (uI @d9 @List.append_eq.{0})))))))))) ?_;intro K hK
 refine hK _ ?_;clear hK K
 (refine awp_ret (ret1 uRT ?_);try rfl)
set_option maxRecDepth 10000 in
theorem rsame_10 (a b:Acx) (hamv:a.mv.length<=1000000) (hbmv:b.mv.length<=1000000) (hagl:a.gl.length<=1000000) (hbgl:b.gl.length<=1000000) (h0:a.k=b.k) (h1:a.lost=b.lost) (h2:a.plt=b.plt) (h3:a.node=b.node) (h4:a.img=b.img) (h5:a.clr=b.clr) (h6:a.txt=b.txt) (h7:a.rev=b.rev) (h8:a.dev=b.dev) (h9:a.con=b.con) (h10:¬a.flt=b.flt):SatG Tryz.prog tab 18 [] [a.av,b.av] [] (B false):=by
 have d0:decide (a.k=b.k)=true:=decide_eq_true h0
 have d1:(a.lost==b.lost)=true:=by rw[h1];exact beq_self_eq_true _
 have d2:=plt_beq a.plt b.plt
 rw[decide_eq_true h2] at d2
 have d3:decide (a.node=b.node)=true:=decide_eq_true h3
 have d4:decide (a.img=b.img)=true:=decide_eq_true h4
 have d5:(a.clr==b.clr)=true:=by rw[h5];exact beq_self_eq_true _
 have d6:decide (a.txt=b.txt)=true:=decide_eq_true h6
 have d7:=rev_beq a.rev b.rev
 rw[decide_eq_true h7] at d7
 have d8:decide (a.dev=b.dev)=true:=decide_eq_true h8
 have d9:decide (a.con=b.con)=true:=decide_eq_true h9
 have d10:=flt_beq a.flt b.flt
 rw[decide_eq_false h10] at d10
 refine uFN Tryz.func18 Tryz.ntmps18 ?_;intro w e X hC
 refine uA ?_
 refine uR1 (uI @d0 (uI @d1 (uI @d2 (uI @d3 (uI @d4 (uI @d5 (uI @d6 (uI @d7 (uI @d8 (uI @d9 (uI @d10 @List.append_eq.{0}))))))))))) ?_;intro K hK
 refine hK _ ?_;clear hK K
 (refine awp_ret (ret1 uRT ?_);try rfl)
set_option maxRecDepth 10000 in
theorem rsame_11 (a b:Acx) (hamv:a.mv.length<=1000000) (hbmv:b.mv.length<=1000000) (hagl:a.gl.length<=1000000) (hbgl:b.gl.length<=1000000) (h0:a.k=b.k) (h1:a.lost=b.lost) (h2:a.plt=b.plt) (h3:a.node=b.node) (h4:a.img=b.img) (h5:a.clr=b.clr) (h6:a.txt=b.txt) (h7:a.rev=b.rev) (h8:a.dev=b.dev) (h9:a.con=b.con) (h10:a.flt=b.flt) (h11:¬a.mv=b.mv):SatG Tryz.prog tab 18 [] [a.av,b.av] [] (B false):=by
 have d0:decide (a.k=b.k)=true:=decide_eq_true h0
 have d1:(a.lost==b.lost)=true:=by rw[h1];exact beq_self_eq_true _
 have d2:=plt_beq a.plt b.plt
 rw[decide_eq_true h2] at d2
 have d3:decide (a.node=b.node)=true:=decide_eq_true h3
 have d4:decide (a.img=b.img)=true:=decide_eq_true h4
 have d5:(a.clr==b.clr)=true:=by rw[h5];exact beq_self_eq_true _
 have d6:decide (a.txt=b.txt)=true:=decide_eq_true h6
 have d7:=rev_beq a.rev b.rev
 rw[decide_eq_true h7] at d7
 have d8:decide (a.dev=b.dev)=true:=decide_eq_true h8
 have d9:decide (a.con=b.con)=true:=decide_eq_true h9
 have d10:=flt_beq a.flt b.flt
 rw[decide_eq_true h10] at d10
 have g11:=rsameF_sat a.mv b.mv hamv hbmv
 rw[decide_eq_false h11] at g11
 refine uFN Tryz.func18 Tryz.ntmps18 ?_;intro w e X hC
 refine uA ?_
 refine uR1 (uI @d0 (uI @d1 (uI @d2 (uI @d3 (uI @d4 (uI @d5 (uI @d6 (uI @d7 (uI @d8 (uI @d9 (uI @d10 @List.append_eq.{0}))))))))))) ?_;intro K hK
 refine callF uTS (g11) uTS uTS uTS ?_;refine uS ?_
 refine hK _ ?_;clear hK K
 (refine awp_ret (ret1 uRT ?_);try rfl)
set_option maxRecDepth 10000 in
theorem rsame_12 (a b:Acx) (hamv:a.mv.length<=1000000) (hbmv:b.mv.length<=1000000) (hagl:a.gl.length<=1000000) (hbgl:b.gl.length<=1000000) (h0:a.k=b.k) (h1:a.lost=b.lost) (h2:a.plt=b.plt) (h3:a.node=b.node) (h4:a.img=b.img) (h5:a.clr=b.clr) (h6:a.txt=b.txt) (h7:a.rev=b.rev) (h8:a.dev=b.dev) (h9:a.con=b.con) (h10:a.flt=b.flt) (h11:a.mv=b.mv):SatG Tryz.prog tab 18 [] [a.av,b.av] [] (B (decide (a.gl=b.gl))):=by
 have d0:decide (a.k=b.k)=true:=decide_eq_true h0
 have d1:(a.lost==b.lost)=true:=by rw[h1];exact beq_self_eq_true _
 have d2:=plt_beq a.plt b.plt
 rw[decide_eq_true h2] at d2
 have d3:decide (a.node=b.node)=true:=decide_eq_true h3
 have d4:decide (a.img=b.img)=true:=decide_eq_true h4
 have d5:(a.clr==b.clr)=true:=by rw[h5];exact beq_self_eq_true _
 have d6:decide (a.txt=b.txt)=true:=decide_eq_true h6
 have d7:=rev_beq a.rev b.rev
 rw[decide_eq_true h7] at d7
 have d8:decide (a.dev=b.dev)=true:=decide_eq_true h8
 have d9:decide (a.con=b.con)=true:=decide_eq_true h9
 have d10:=flt_beq a.flt b.flt
 rw[decide_eq_true h10] at d10
 have g11:=rsameF_sat a.mv b.mv hamv hbmv
 rw[decide_eq_true h11] at g11
 have g12:=rsameF_sat a.gl b.gl hagl hbgl
 refine uFN Tryz.func18 Tryz.ntmps18 ?_;intro w e X hC
 refine uA ?_
 refine uR1 (uI @d0 (uI @d1 (uI @d2 (uI @d3 (uI @d4 (uI @d5 (uI @d6 (uI @d7 (uI @d8 (uI @d9 (uI @d10 @List.append_eq.{0}))))))))))) ?_;intro K hK
 refine callF uTS (g11) uTS uTS uTS ?_;refine uS ?_
 refine callF uTS (g12) uTS uTS uTS ?_;refine uS ?_
 refine hK _ ?_;clear hK K
 (refine awp_ret (ret1 uRT ?_);try rfl)
set_option maxRecDepth 10000 in
theorem rsame_sat (a b:Acx) (hamv:a.mv.length<=1000000) (hbmv:b.mv.length<=1000000) (hagl:a.gl.length<=1000000) (hbgl:b.gl.length<=1000000):SatG Tryz.prog tab 18 [] [a.av,b.av] [] (B (decide (a=b))):=by
 by_cases h0:¬a.k=b.k
 ·rw[decide_eq_false (show ¬a=b from fun h=>h0 (by rw[h]))]
  exact rsame_0 a b hamv hbmv hagl hbgl h0
 replace h0:=Decidable.not_not.1 h0
 by_cases h1:¬a.lost=b.lost
 ·rw[decide_eq_false (show ¬a=b from fun h=>h1 (by rw[h]))]
  exact rsame_1 a b hamv hbmv hagl hbgl h0 h1
 replace h1:=Decidable.not_not.1 h1
 by_cases h2:¬a.plt=b.plt
 ·rw[decide_eq_false (show ¬a=b from fun h=>h2 (by rw[h]))]
  exact rsame_2 a b hamv hbmv hagl hbgl h0 h1 h2
 replace h2:=Decidable.not_not.1 h2
 by_cases h3:¬a.node=b.node
 ·rw[decide_eq_false (show ¬a=b from fun h=>h3 (by rw[h]))]
  exact rsame_3 a b hamv hbmv hagl hbgl h0 h1 h2 h3
 replace h3:=Decidable.not_not.1 h3
 by_cases h4:¬a.img=b.img
 ·rw[decide_eq_false (show ¬a=b from fun h=>h4 (by rw[h]))]
  exact rsame_4 a b hamv hbmv hagl hbgl h0 h1 h2 h3 h4
 replace h4:=Decidable.not_not.1 h4
 by_cases h5:¬a.clr=b.clr
 ·rw[decide_eq_false (show ¬a=b from fun h=>h5 (by rw[h]))]
  exact rsame_5 a b hamv hbmv hagl hbgl h0 h1 h2 h3 h4 h5
 replace h5:=Decidable.not_not.1 h5
 by_cases h6:¬a.txt=b.txt
 ·rw[decide_eq_false (show ¬a=b from fun h=>h6 (by rw[h]))]
  exact rsame_6 a b hamv hbmv hagl hbgl h0 h1 h2 h3 h4 h5 h6
 replace h6:=Decidable.not_not.1 h6
 by_cases h7:¬a.rev=b.rev
 ·rw[decide_eq_false (show ¬a=b from fun h=>h7 (by rw[h]))]
  exact rsame_7 a b hamv hbmv hagl hbgl h0 h1 h2 h3 h4 h5 h6 h7
 replace h7:=Decidable.not_not.1 h7
 by_cases h8:¬a.dev=b.dev
 ·rw[decide_eq_false (show ¬a=b from fun h=>h8 (by rw[h]))]
  exact rsame_8 a b hamv hbmv hagl hbgl h0 h1 h2 h3 h4 h5 h6 h7 h8
 replace h8:=Decidable.not_not.1 h8
 by_cases h9:¬a.con=b.con
 ·rw[decide_eq_false (show ¬a=b from fun h=>h9 (by rw[h]))]
  exact rsame_9 a b hamv hbmv hagl hbgl h0 h1 h2 h3 h4 h5 h6 h7 h8 h9
 replace h9:=Decidable.not_not.1 h9
 by_cases h10:¬a.flt=b.flt
 ·rw[decide_eq_false (show ¬a=b from fun h=>h10 (by rw[h]))]
  exact rsame_10 a b hamv hbmv hagl hbgl h0 h1 h2 h3 h4 h5 h6 h7 h8 h9 h10
 replace h10:=Decidable.not_not.1 h10
 by_cases h11:¬a.mv=b.mv
 ·rw[decide_eq_false (show ¬a=b from fun h=>h11 (by rw[h]))]
  exact rsame_11 a b hamv hbmv hagl hbgl h0 h1 h2 h3 h4 h5 h6 h7 h8 h9 h10 h11
 replace h11:=Decidable.not_not.1 h11
 rw[decide_eq_decide.2 (show a=b↔a.gl=b.gl from⟨fun h=>by rw[h],fun h=>by
  obtain⟨⟩:=a
  obtain⟨⟩:=b
  simp_all⟩)]
 exact rsame_12 a b hamv hbmv hagl hbgl h0 h1 h2 h3 h4 h5 h6 h7 h8 h9 h10 h11
open Go.Scr
theorem only_w1 (x:Acx) (hk:x.k=1):SatG Tryz.prog tab 10 [] [x.av] [] (only x).av:=by
 have e1:=uDt (x.k=1)
 have e2:=uDf (x.k=2)
 have e10:=uDf (x.k=10)
 have e3:=uDf (x.k=3)
 have e4:=uDf (x.k=4)
 have e5:=uDf (x.k=5)
 have e6:=uDf (x.k=6)
 have e7:=uDf (x.k=7)
 have e8:=uDf (x.k=8)
 have e9:=uDf (x.k=9)
 have e11:=uDf (x.k=11)
 have e12:=uDf (x.k=12)
 have e13:=uDf (x.k=13)
 have ho:=only_1 hk
 rw[ho]
 refine uFN Tryz.func10 Tryz.ntmps10 ?_;intro w e X hC
 repeat first|refine uC ?_|refine uA1 (uI @e1 (uI @e2 (uI @e10 (uI @e3 (uI @e4 (uI @e5 (uI @e6 (uI @e7 (uI @e8 (uI @e9 (uI @e11 (uI @e12 @e13)))))))))))) ?_
 refine uD ?_;intro K hK
 refine uH ?_
 refine hK _ ?_;clear hK K
 repeat refine uA ?_
 refine awp_ret ?_;rw[show Tryz.f10.results.toList=[.cell 2 30] from rfl];first|refine uRN ?_|exact uRM
 rfl
theorem only_w2 (x:Acx) (hk:x.k=2):SatG Tryz.prog tab 10 [] [x.av] [] (only x).av:=by
 have e1:=uDf (x.k=1)
 have e2:=uDt (x.k=2)
 have e10:=uDf (x.k=10)
 have e3:=uDf (x.k=3)
 have e4:=uDf (x.k=4)
 have e5:=uDf (x.k=5)
 have e6:=uDf (x.k=6)
 have e7:=uDf (x.k=7)
 have e8:=uDf (x.k=8)
 have e9:=uDf (x.k=9)
 have e11:=uDf (x.k=11)
 have e12:=uDf (x.k=12)
 have e13:=uDf (x.k=13)
 have ho:=only_2 hk
 rw[ho]
 refine uFN Tryz.func10 Tryz.ntmps10 ?_;intro w e X hC
 repeat first|refine uC ?_|refine uA1 (uI @e1 (uI @e2 (uI @e10 (uI @e3 (uI @e4 (uI @e5 (uI @e6 (uI @e7 (uI @e8 (uI @e9 (uI @e11 (uI @e12 @e13)))))))))))) ?_
 refine uD ?_;intro K hK
 refine uH ?_
 refine hK _ ?_;clear hK K
 repeat refine uA ?_
 refine awp_ret ?_;rw[show Tryz.f10.results.toList=[.cell 2 30] from rfl];first|refine uRN ?_|exact uRM
 rfl
theorem only_w10 (x:Acx) (hk:x.k=10):SatG Tryz.prog tab 10 [] [x.av] [] (only x).av:=by
 have e1:=uDf (x.k=1)
 have e2:=uDf (x.k=2)
 have e10:=uDt (x.k=10)
 have e3:=uDf (x.k=3)
 have e4:=uDf (x.k=4)
 have e5:=uDf (x.k=5)
 have e6:=uDf (x.k=6)
 have e7:=uDf (x.k=7)
 have e8:=uDf (x.k=8)
 have e9:=uDf (x.k=9)
 have e11:=uDf (x.k=11)
 have e12:=uDf (x.k=12)
 have e13:=uDf (x.k=13)
 have ho:=only_10 hk
 rw[ho]
 refine uFN Tryz.func10 Tryz.ntmps10 ?_;intro w e X hC
 repeat first|refine uC ?_|refine uA1 (uI @e1 (uI @e2 (uI @e10 (uI @e3 (uI @e4 (uI @e5 (uI @e6 (uI @e7 (uI @e8 (uI @e9 (uI @e11 (uI @e12 @e13)))))))))))) ?_
 refine uD ?_;intro K hK
 refine uH ?_
 refine hK _ ?_;clear hK K
 repeat refine uA ?_
 refine awp_ret ?_;rw[show Tryz.f10.results.toList=[.cell 2 30] from rfl];first|refine uRN ?_|exact uRM
 rfl
theorem only_w3 (x:Acx) (hk:x.k=3):SatG Tryz.prog tab 10 [] [x.av] [] (only x).av:=by
 have e1:=uDf (x.k=1)
 have e2:=uDf (x.k=2)
 have e10:=uDf (x.k=10)
 have e3:=uDt (x.k=3)
 have e4:=uDf (x.k=4)
 have e5:=uDf (x.k=5)
 have e6:=uDf (x.k=6)
 have e7:=uDf (x.k=7)
 have e8:=uDf (x.k=8)
 have e9:=uDf (x.k=9)
 have e11:=uDf (x.k=11)
 have e12:=uDf (x.k=12)
 have e13:=uDf (x.k=13)
 have ho:=only_3 hk
 rw[ho]
 refine uFN Tryz.func10 Tryz.ntmps10 ?_;intro w e X hC
 repeat first|refine uC ?_|refine uA1 (uI @e1 (uI @e2 (uI @e10 (uI @e3 (uI @e4 (uI @e5 (uI @e6 (uI @e7 (uI @e8 (uI @e9 (uI @e11 (uI @e12 @e13)))))))))))) ?_
 repeat refine uA ?_
 refine awp_ret ?_;rw[show Tryz.f10.results.toList=[.cell 2 30] from rfl];first|refine uRN ?_|exact uRM
 rfl
theorem only_w4 (x:Acx) (hk:x.k=4):SatG Tryz.prog tab 10 [] [x.av] [] (only x).av:=by
 have e1:=uDf (x.k=1)
 have e2:=uDf (x.k=2)
 have e10:=uDf (x.k=10)
 have e3:=uDf (x.k=3)
 have e4:=uDt (x.k=4)
 have e5:=uDf (x.k=5)
 have e6:=uDf (x.k=6)
 have e7:=uDf (x.k=7)
 have e8:=uDf (x.k=8)
 have e9:=uDf (x.k=9)
 have e11:=uDf (x.k=11)
 have e12:=uDf (x.k=12)
 have e13:=uDf (x.k=13)
 have ho:=only_4 hk
 rw[ho]
 refine uFN Tryz.func10 Tryz.ntmps10 ?_;intro w e X hC
 repeat first|refine uC ?_|refine uA1 (uI @e1 (uI @e2 (uI @e10 (uI @e3 (uI @e4 (uI @e5 (uI @e6 (uI @e7 (uI @e8 (uI @e9 (uI @e11 (uI @e12 @e13)))))))))))) ?_
 refine uD ?_;intro K hK
 refine uH ?_
 refine hK _ ?_;clear hK K
 repeat refine uA ?_
 refine awp_ret ?_;rw[show Tryz.f10.results.toList=[.cell 2 30] from rfl];first|refine uRN ?_|exact uRM
 rfl
theorem only_w5 (x:Acx) (hk:x.k=5):SatG Tryz.prog tab 10 [] [x.av] [] (only x).av:=by
 have e1:=uDf (x.k=1)
 have e2:=uDf (x.k=2)
 have e10:=uDf (x.k=10)
 have e3:=uDf (x.k=3)
 have e4:=uDf (x.k=4)
 have e5:=uDt (x.k=5)
 have e6:=uDf (x.k=6)
 have e7:=uDf (x.k=7)
 have e8:=uDf (x.k=8)
 have e9:=uDf (x.k=9)
 have e11:=uDf (x.k=11)
 have e12:=uDf (x.k=12)
 have e13:=uDf (x.k=13)
 have ho:=only_5 hk
 rw[ho]
 refine uFN Tryz.func10 Tryz.ntmps10 ?_;intro w e X hC
 repeat first|refine uC ?_|refine uA1 (uI @e1 (uI @e2 (uI @e10 (uI @e3 (uI @e4 (uI @e5 (uI @e6 (uI @e7 (uI @e8 (uI @e9 (uI @e11 (uI @e12 @e13)))))))))))) ?_
 repeat refine uA ?_
 refine awp_ret ?_;rw[show Tryz.f10.results.toList=[.cell 2 30] from rfl];first|refine uRN ?_|exact uRM
 rfl
theorem only_w6 (x:Acx) (hk:x.k=6):SatG Tryz.prog tab 10 [] [x.av] [] (only x).av:=by
 have e1:=uDf (x.k=1)
 have e2:=uDf (x.k=2)
 have e10:=uDf (x.k=10)
 have e3:=uDf (x.k=3)
 have e4:=uDf (x.k=4)
 have e5:=uDf (x.k=5)
 have e6:=uDt (x.k=6)
 have e7:=uDf (x.k=7)
 have e8:=uDf (x.k=8)
 have e9:=uDf (x.k=9)
 have e11:=uDf (x.k=11)
 have e12:=uDf (x.k=12)
 have e13:=uDf (x.k=13)
 have ho:=only_6 hk
 rw[ho]
 refine uFN Tryz.func10 Tryz.ntmps10 ?_;intro w e X hC
 repeat first|refine uC ?_|refine uA1 (uI @e1 (uI @e2 (uI @e10 (uI @e3 (uI @e4 (uI @e5 (uI @e6 (uI @e7 (uI @e8 (uI @e9 (uI @e11 (uI @e12 @e13)))))))))))) ?_
 repeat refine uA ?_
 refine awp_ret ?_;rw[show Tryz.f10.results.toList=[.cell 2 30] from rfl];first|refine uRN ?_|exact uRM
 rfl
theorem only_w7 (x:Acx) (hk:x.k=7):SatG Tryz.prog tab 10 [] [x.av] [] (only x).av:=by
 have e1:=uDf (x.k=1)
 have e2:=uDf (x.k=2)
 have e10:=uDf (x.k=10)
 have e3:=uDf (x.k=3)
 have e4:=uDf (x.k=4)
 have e5:=uDf (x.k=5)
 have e6:=uDf (x.k=6)
 have e7:=uDt (x.k=7)
 have e8:=uDf (x.k=8)
 have e9:=uDf (x.k=9)
 have e11:=uDf (x.k=11)
 have e12:=uDf (x.k=12)
 have e13:=uDf (x.k=13)
 have ho:=only_7 hk
 rw[ho]
 refine uFN Tryz.func10 Tryz.ntmps10 ?_;intro w e X hC
 repeat first|refine uC ?_|refine uA1 (uI @e1 (uI @e2 (uI @e10 (uI @e3 (uI @e4 (uI @e5 (uI @e6 (uI @e7 (uI @e8 (uI @e9 (uI @e11 (uI @e12 @e13)))))))))))) ?_
 repeat refine uA ?_
 refine awp_ret ?_;rw[show Tryz.f10.results.toList=[.cell 2 30] from rfl];first|refine uRN ?_|exact uRM
 rfl
theorem only_w8 (x:Acx) (hk:x.k=8):SatG Tryz.prog tab 10 [] [x.av] [] (only x).av:=by
 have e1:=uDf (x.k=1)
 have e2:=uDf (x.k=2)
 have e10:=uDf (x.k=10)
 have e3:=uDf (x.k=3)
 have e4:=uDf (x.k=4)
 have e5:=uDf (x.k=5)
 have e6:=uDf (x.k=6)
 have e7:=uDf (x.k=7)
 have e8:=uDt (x.k=8)
 have e9:=uDf (x.k=9)
 have e11:=uDf (x.k=11)
 have e12:=uDf (x.k=12)
 have e13:=uDf (x.k=13)
 have ho:=only_8 hk
 rw[ho]
 refine uFN Tryz.func10 Tryz.ntmps10 ?_;intro w e X hC
 repeat first|refine uC ?_|refine uA1 (uI @e1 (uI @e2 (uI @e10 (uI @e3 (uI @e4 (uI @e5 (uI @e6 (uI @e7 (uI @e8 (uI @e9 (uI @e11 (uI @e12 @e13)))))))))))) ?_
 refine uD ?_;intro K hK
 refine uH ?_
 refine hK _ ?_;clear hK K
 repeat refine uA ?_
 refine awp_ret ?_;rw[show Tryz.f10.results.toList=[.cell 2 30] from rfl];first|refine uRN ?_|exact uRM
 rfl
theorem only_w9 (x:Acx) (hk:x.k=9):SatG Tryz.prog tab 10 [] [x.av] [] (only x).av:=by
 have e1:=uDf (x.k=1)
 have e2:=uDf (x.k=2)
 have e10:=uDf (x.k=10)
 have e3:=uDf (x.k=3)
 have e4:=uDf (x.k=4)
 have e5:=uDf (x.k=5)
 have e6:=uDf (x.k=6)
 have e7:=uDf (x.k=7)
 have e8:=uDf (x.k=8)
 have e9:=uDt (x.k=9)
 have e11:=uDf (x.k=11)
 have e12:=uDf (x.k=12)
 have e13:=uDf (x.k=13)
 have ho:=only_9 hk
 rw[ho]
 refine uFN Tryz.func10 Tryz.ntmps10 ?_;intro w e X hC
 repeat first|refine uC ?_|refine uA1 (uI @e1 (uI @e2 (uI @e10 (uI @e3 (uI @e4 (uI @e5 (uI @e6 (uI @e7 (uI @e8 (uI @e9 (uI @e11 (uI @e12 @e13)))))))))))) ?_
 refine uD ?_;intro K hK
 refine uH ?_
 refine hK _ ?_;clear hK K
 repeat refine uA ?_
 refine awp_ret ?_;rw[show Tryz.f10.results.toList=[.cell 2 30] from rfl];first|refine uRN ?_|exact uRM
 rfl
theorem only_w11 (x:Acx) (hk:x.k=11):SatG Tryz.prog tab 10 [] [x.av] [] (only x).av:=by
 have e1:=uDf (x.k=1)
 have e2:=uDf (x.k=2)
 have e10:=uDf (x.k=10)
 have e3:=uDf (x.k=3)
 have e4:=uDf (x.k=4)
 have e5:=uDf (x.k=5)
 have e6:=uDf (x.k=6)
 have e7:=uDf (x.k=7)
 have e8:=uDf (x.k=8)
 have e9:=uDf (x.k=9)
 have e11:=uDt (x.k=11)
 have e12:=uDf (x.k=12)
 have e13:=uDf (x.k=13)
 have ho:=only_11 hk
 rw[ho]
 refine uFN Tryz.func10 Tryz.ntmps10 ?_;intro w e X hC
 repeat first|refine uC ?_|refine uA1 (uI @e1 (uI @e2 (uI @e10 (uI @e3 (uI @e4 (uI @e5 (uI @e6 (uI @e7 (uI @e8 (uI @e9 (uI @e11 (uI @e12 @e13)))))))))))) ?_
 repeat refine uA ?_
 refine awp_ret ?_;rw[show Tryz.f10.results.toList=[.cell 2 30] from rfl];first|refine uRN ?_|exact uRM
 rfl
theorem only_w12 (x:Acx) (hk:x.k=12):SatG Tryz.prog tab 10 [] [x.av] [] (only x).av:=by
 have e1:=uDf (x.k=1)
 have e2:=uDf (x.k=2)
 have e10:=uDf (x.k=10)
 have e3:=uDf (x.k=3)
 have e4:=uDf (x.k=4)
 have e5:=uDf (x.k=5)
 have e6:=uDf (x.k=6)
 have e7:=uDf (x.k=7)
 have e8:=uDf (x.k=8)
 have e9:=uDf (x.k=9)
 have e11:=uDf (x.k=11)
 have e12:=uDt (x.k=12)
 have e13:=uDf (x.k=13)
 have ho:=only_12 hk
 rw[ho]
 refine uFN Tryz.func10 Tryz.ntmps10 ?_;intro w e X hC
 repeat first|refine uC ?_|refine uA1 (uI @e1 (uI @e2 (uI @e10 (uI @e3 (uI @e4 (uI @e5 (uI @e6 (uI @e7 (uI @e8 (uI @e9 (uI @e11 (uI @e12 @e13)))))))))))) ?_
 repeat refine uA ?_
 refine awp_ret ?_;rw[show Tryz.f10.results.toList=[.cell 2 30] from rfl];first|refine uRN ?_|exact uRM
 rfl
theorem only_w13 (x:Acx) (hk:x.k=13):SatG Tryz.prog tab 10 [] [x.av] [] (only x).av:=by
 have e1:=uDf (x.k=1)
 have e2:=uDf (x.k=2)
 have e10:=uDf (x.k=10)
 have e3:=uDf (x.k=3)
 have e4:=uDf (x.k=4)
 have e5:=uDf (x.k=5)
 have e6:=uDf (x.k=6)
 have e7:=uDf (x.k=7)
 have e8:=uDf (x.k=8)
 have e9:=uDf (x.k=9)
 have e11:=uDf (x.k=11)
 have e12:=uDf (x.k=12)
 have e13:=uDt (x.k=13)
 have ho:=only_13 hk
 rw[ho]
 refine uFN Tryz.func10 Tryz.ntmps10 ?_;intro w e X hC
 repeat first|refine uC ?_|refine uA1 (uI @e1 (uI @e2 (uI @e10 (uI @e3 (uI @e4 (uI @e5 (uI @e6 (uI @e7 (uI @e8 (uI @e9 (uI @e11 (uI @e12 @e13)))))))))))) ?_
 repeat refine uA ?_
 refine awp_ret ?_;rw[show Tryz.f10.results.toList=[.cell 2 30] from rfl];first|refine uRN ?_|exact uRM
 rfl
theorem only_w0 (x:Acx) (n1:¬x.k=1) (n2:¬x.k=2) (n10:¬x.k=10) (n3:¬x.k=3) (n4:¬x.k=4) (n5:¬x.k=5) (n6:¬x.k=6) (n7:¬x.k=7) (n8:¬x.k=8) (n9:¬x.k=9) (n11:¬x.k=11) (n12:¬x.k=12) (n13:¬x.k=13):SatG Tryz.prog tab 10 [] [x.av] [] (only x).av:=by
 have e1:=uDf (x.k=1)
 have e2:=uDf (x.k=2)
 have e10:=uDf (x.k=10)
 have e3:=uDf (x.k=3)
 have e4:=uDf (x.k=4)
 have e5:=uDf (x.k=5)
 have e6:=uDf (x.k=6)
 have e7:=uDf (x.k=7)
 have e8:=uDf (x.k=8)
 have e9:=uDf (x.k=9)
 have e11:=uDf (x.k=11)
 have e12:=uDf (x.k=12)
 have e13:=uDf (x.k=13)
 have ho:=only_0 n1 n2 n10 n3 n4 n5 n6 n7 n8 n9 n11 n12 n13
 rw[ho]
 refine uFN Tryz.func10 Tryz.ntmps10 ?_;intro w e X hC
 repeat first|refine uC ?_|refine uA1 (uI @e1 (uI @e2 (uI @e10 (uI @e3 (uI @e4 (uI @e5 (uI @e6 (uI @e7 (uI @e8 (uI @e9 (uI @e11 (uI @e12 @e13)))))))))))) ?_
 repeat refine uA ?_
 refine awp_ret ?_;rw[show Tryz.f10.results.toList=[.cell 2 30] from rfl];first|refine uRN ?_|exact uRM
 rfl
theorem only_sat (x:Acx):SatG Tryz.prog tab 10 [] [x.av] [] (only x).av:=by
 by_cases n1:x.k=1
 ·exact only_w1 x n1
 by_cases n2:x.k=2
 ·exact only_w2 x n2
 by_cases n10:x.k=10
 ·exact only_w10 x n10
 by_cases n3:x.k=3
 ·exact only_w3 x n3
 by_cases n4:x.k=4
 ·exact only_w4 x n4
 by_cases n5:x.k=5
 ·exact only_w5 x n5
 by_cases n6:x.k=6
 ·exact only_w6 x n6
 by_cases n7:x.k=7
 ·exact only_w7 x n7
 by_cases n8:x.k=8
 ·exact only_w8 x n8
 by_cases n9:x.k=9
 ·exact only_w9 x n9
 by_cases n11:x.k=11
 ·exact only_w11 x n11
 by_cases n12:x.k=12
 ·exact only_w12 x n12
 by_cases n13:x.k=13
 ·exact only_w13 x n13
 exact only_w0 x n1 n2 n10 n3 n4 n5 n6 n7 n8 n9 n11 n12 n13
open Go.Scr
theorem rfaults_sat (l:List Flaw) (lo hi:Int) (hl:l.length<=1000000):SatG Tryz.prog tab 67 [] [.sl (flaws l) false,I lo,I hi] [] (B (l.all (flawB lo hi))):=by
 refine uFN Tryz.func67 Tryz.ntmps67 ?_;intro w e X hC
 repeat refine uA ?_
 refine uW ?_
 refine awp_loopW (fun i:Nat×Nat=>⟨[(0, .sl (flaws l) false),(1,I lo),(2,I hi),(7,I i.2)],[],i.1⟩) (fun i=>i.2<=l.length/\∀j,j<i.2->flawB lo hi (l.getD j default)=true) (fun i=>l.length - i.2) (_,0) ⟨Nat.zero_le _,fun j hj=>absurd hj (Nat.not_lt_zero _)⟩ (uKF) ?_
 rintro⟨ck,i⟩ ⟨hi',hj⟩
 simp only at hi' hj
 refine uA ?_
 refine uW ?_;refine condP _ rfl (fun h=>?_) (fun h=>?_)
 ·have hlt:i<l.length:=by omega
  have hm:l.getD i default∈l:=by rw[List.getD_eq_getElem?_getD,List.getElem?_eq_getElem hlt];exact List.getElem_mem hlt
  have hno:flawB lo hi (l.getD i default)=false->B (l.all (flawB lo hi))=B false:=fun h=>by
   rw[List.all_eq_false.2 ⟨_,hm,by rw[h];decide⟩]
  have hb:flawB lo hi (l.getD i default)=(!decide ((l.getD i default).k<lo)&&(!decide (hi<(l.getD i default).k)&&(numB (l.getD i default).n&&numB (l.getD i default).w))):=by
   unfold flawB
   rw[Bool.decide_and,Bool.and_assoc,Bool.and_assoc,<-decide_not,<-decide_not,decide_eq_decide.2 (Int.not_lt (a:=(l.getD i default).k) (b:=lo)),decide_eq_decide.2 (Int.not_lt (a:=hi) (b:=(l.getD i default).k))]
  have g2:SatG Tryz.prog tab 70 [] [I (l.getD i default).n] [] (B (numB (l.getD i default).n)):=num_sat _
  have g3:SatG Tryz.prog tab 70 [] [I (l.getD i default).w] [] (B (numB (l.getD i default).w)):=num_sat _
  cases e0:decide ((l.getD i default).k<lo) with
  |true=>
   refine uR1 (uI (flaws_getD hlt) @e0) ?_;intro K hK
   refine uH ?_
   refine hK _ ?_;clear hK K
   refine uT ?_
   rw[hno (by rw[hb,e0];rfl)]
   repeat refine uA ?_
   (refine awp_ret (ret1 uRT ?_);try rfl)
  |false=>
   cases e1:decide (hi<(l.getD i default).k) with
   |true=>
    refine uR1 (uI (flaws_getD hlt) (uI @e0 @e1)) ?_;intro K hK
    refine uH ?_
    refine hK _ ?_;clear hK K
    refine uT ?_
    rw[hno (by rw[hb,e0,e1];rfl)]
    repeat refine uA ?_
    (refine awp_ret (ret1 uRT ?_);try rfl)
   |false=>
    cases e2:numB (l.getD i default).n with
    |false=>
     rw[e2] at g2
     refine uR1 (uI (flaws_getD hlt) (uI @e0 @e1)) ?_;intro K hK
     refine uH ?_
     refine callF uTS (g2) uTS uTS uTS ?_;refine uS ?_
     try refine uS1 (uI (flaws_getD hlt) (uI @e0 @e1)) ?_
     refine uH ?_
     refine hK _ ?_;clear hK K
     refine uT ?_
     rw[hno (by rw[hb,e0,e1,e2];rfl)]
     repeat refine uA ?_
     (refine awp_ret (ret1 uRT ?_);try rfl)
    |true=>
     rw[e2] at g2
     cases e3:numB (l.getD i default).w with
     |false=>
      rw[e3] at g3
      refine uR1 (uI (flaws_getD hlt) (uI @e0 @e1)) ?_;intro K hK
      refine uH ?_
      refine callF uTS (g2) uTS uTS uTS ?_;refine uS ?_
      try refine uS1 (uI (flaws_getD hlt) (uI @e0 @e1)) ?_
      refine uH ?_
      refine callF uTS (g3) uTS uTS uTS ?_;refine uS ?_
      try refine uS1 (uI (flaws_getD hlt) (uI @e0 @e1)) ?_
      refine uH ?_
      refine hK _ ?_;clear hK K
      refine uT ?_
      rw[hno (by rw[hb,e0,e1,e2,e3];rfl)]
      repeat refine uA ?_
      (refine awp_ret (ret1 uRT ?_);try rfl)
     |true=>
      rw[e3] at g3
      refine uR1 (uI (flaws_getD hlt) (uI @e0 @e1)) ?_;intro K hK
      refine uH ?_
      refine callF uTS (g2) uTS uTS uTS ?_;refine uS ?_
      try refine uS1 (uI (flaws_getD hlt) (uI @e0 @e1)) ?_
      refine uH ?_
      refine callF uTS (g3) uTS uTS uTS ?_;refine uS ?_
      try refine uS1 (uI (flaws_getD hlt) (uI @e0 @e1)) ?_
      refine uH ?_
      refine hK _ ?_;clear hK K
      refine uF ?_
      repeat refine uA ?_
      refine⟨(_,i+1),⟨by simp only;omega,fun j hj'=>?_⟩,by simp only;omega,uKF⟩
      by_cases hji:j=i
      ·subst hji;rw[hb,e0,e1,e2,e3];rfl
      ·exact hj j (by simp only at hj';omega)
 ·refine awp_exit ?_
  have hall:l.all (flawB lo hi)=true:=List.all_eq_true.2 fun x hx=>by
   obtain⟨j,hj',rfl⟩:=List.getElem_of_mem hx
   have:=hj j (by omega)
   rwa[List.getD_eq_getElem?_getD,List.getElem?_eq_getElem hj'] at this
  rw[hall]
  repeat refine uA ?_
  (refine awp_ret (ret1 uRT ?_);try rfl)
theorem rtext_sat (s:Bs) (hl:s.length<=1000000):SatG Tryz.prog tab 68 [] [S (strOf s)] [] (B (txtB s)):=by
 refine uFN Tryz.func68 Tryz.ntmps68 ?_;intro w e X hC
 repeat refine uA ?_
 refine uW ?_
 refine awp_loopW (fun i:Nat×Nat=>⟨[(0,S (strOf s)),(3,I i.2)],[],i.1⟩) (fun i=>i.2<=s.length/\∀j,j<i.2->txtB [s.getD j 0]=true) (fun i=>s.length - i.2) (_,0) ⟨Nat.zero_le _,fun j hj=>absurd hj (Nat.not_lt_zero _)⟩ (uKF) ?_
 rintro⟨ck,i⟩ ⟨hi',hj⟩
 simp only at hi' hj
 refine uA ?_
 refine uW ?_;refine condP _ rfl (fun h=>?_) (fun h=>?_)
 ·have hlt:i<s.length:=by omega
  have hm:s.getD i 0∈s:=by rw[List.getD_eq_getElem?_getD,List.getElem?_eq_getElem hlt];exact List.getElem_mem hlt
  have hno:txtB [s.getD i 0]=false->B (txtB s)=B false:=fun h=>by
   rw[show txtB s=false from List.all_eq_false.2 ⟨_,hm,by
    have h1:(decide ((s.getD i 0).toNat=10\/(32<=(s.getD i 0).toNat/\(s.getD i 0).toNat<=126/\(s.getD i 0).toNat≠124))&&true)=false:=h
    rw[Bool.and_true] at h1
    rw[h1];decide⟩]
  have hb:∀c:UInt8,txtB [c]=decide (c.toNat=10\/(32<=c.toNat/\c.toNat<=126/\c.toNat≠124)):=fun c=>by
   show(decide _&&true)=_
   rw[Bool.and_true]
  have step:∀j,j<i+1->txtB [s.getD i 0]=true->txtB [s.getD j 0]=true:=fun j hj' ht=>by
   by_cases hji:j=i
   ·subst hji;exact ht
   ·exact hj j (by omega)
  have hc:=hb (s.getD i 0)
  generalize hce:s.getD i 0=c at*
  by_cases c0:c.toNat=10
  ·have e0:(decide ¬((c.toNat:Nat):Int)=10)=false:=decide_eq_false (by omega)
   repeat refine uA1 (uI @hce @e0) ?_
   refine uF ?_
   repeat refine uA ?_
   refine⟨(_,i+1),⟨by simp only;omega,fun j hj'=>step j hj' (by rw[hc];exact decide_eq_true (.inl c0))⟩,by simp only;omega,uKF⟩
  ·have e0:(decide ¬((c.toNat:Nat):Int)=10)=true:=decide_eq_true (by omega)
   by_cases c1:c.toNat<32
   ·have e1:=uDt (((c.toNat:Nat):Int)<32)
    rw[hno (by rw[hc];exact decide_eq_false (by omega))]
    repeat refine uA1 (uI @hce (uI @e0 @e1)) ?_
    refine uT ?_
    repeat refine uA ?_
    (refine awp_ret (ret1 uRT ?_);try rfl)
   ·have e1:=uDf (((c.toNat:Nat):Int)<32)
    by_cases c2:126<c.toNat
    ·have e2:=uDt (126<((c.toNat:Nat):Int))
     rw[hno (by rw[hc];exact decide_eq_false (by omega))]
     repeat refine uA1 (uI @hce (uI @e0 (uI @e1 @e2))) ?_
     refine uT ?_
     repeat refine uA ?_
     (refine awp_ret (ret1 uRT ?_);try rfl)
    ·have e2:=uDf (126<((c.toNat:Nat):Int))
     by_cases c3:c.toNat=124
     ·have e3:=uDt (((c.toNat:Nat):Int)=124)
      rw[hno (by rw[hc];exact decide_eq_false (by omega))]
      repeat refine uA1 (uI @hce (uI @e0 (uI @e1 (uI @e2 @e3)))) ?_
      refine uT ?_
      repeat refine uA ?_
      (refine awp_ret (ret1 uRT ?_);try rfl)
     ·have e3:=uDf (((c.toNat:Nat):Int)=124)
      repeat refine uA1 (uI @hce (uI @e0 (uI @e1 (uI @e2 @e3)))) ?_
      refine uF ?_
      repeat refine uA ?_
      refine⟨(_,i+1),⟨by simp only;omega,fun j hj'=>step j hj' (by rw[hc];exact decide_eq_true (.inr ⟨by omega,by omega,by omega⟩))⟩,by simp only;omega,uKF⟩
 ·refine awp_exit ?_
  have hall:txtB s=true:=List.all_eq_true.2 fun x hx=>by
   obtain⟨j,hj',rfl⟩:=List.getElem_of_mem hx
   have h1:=hj j (by omega)
   rw[List.getD_eq_getElem?_getD,List.getElem?_eq_getElem hj'] at h1
   have h2:(decide ((s[j]).toNat=10\/(32<=(s[j]).toNat/\(s[j]).toNat<=126/\(s[j]).toNat≠124))&&true)=true:=h1
   rw[Bool.and_true] at h2
   exact h2
  rw[hall]
  repeat refine uA ?_
  (refine awp_ret (ret1 uRT ?_);try rfl)
open Go Go.Sym Go.Scr Go.Lib
def revB (r:Rev):Bool:=decide (1<=r.k/\r.k<=5)&&(r.flt.ok&&(numB r.amt&&(decide (r.k<=3)||decide (r.amt=0))))
def numsB (x:Acx):Bool:=numB x.node&&(numB x.img&&(numB x.dev&&numB x.con))
def bodyB (x:Acx):Bool:=
 if x.k=1 then x.mv.all (flawB 1 2)&&x.gl.all (flawB 3 6)
 else if x.k=3 then txtB x.txt
 else if x.k=5 then revB x.rev
 else if x.k=13 then x.flt.ok
 else if x.k=2\/x.k=10\/x.k=8\/x.k=9 then x.plt.ok&&numsB x
 else numsB x
def plainA (x:Acx):Bool:=decide (1<=x.k/\x.k<=14)&&(decide (x=only x)&&bodyB x)
theorem bad_word (w:Wr) (s:Bs):(wWord w s).2=(w.2||s.isEmpty):=rfl
theorem decW_emp (n:Int):(decW n).isEmpty=!numB n:=by
 unfold decW
 cases h:numB n with
 |true=>
  rw[if_pos rfl]
  cases h1:decDigits n.toNat with
  |nil=>exact absurd h1 (dec_ne _)
  |cons a b=>rfl
 |false=>rfl
theorem bad_num (w:Wr) (n:Int):(wNums w [n]).2=(w.2||!numB n):=by
 show(wWord w (decW n)).2=_
 rw[bad_word,decW_emp]
theorem bad_num2 (w:Wr) (n m:Int):(wNums w [n,m]).2=(w.2||!numB n||!numB m):=by
 show(wWord (wWord w (decW n)) (decW m)).2=_
 rw[bad_word,bad_word,decW_emp,decW_emp]
theorem plt_emp (p:Plt):p.fmt.isEmpty=!p.ok:=by
 cases h:p.ok with
 |true=>
  unfold Plt.fmt
  rw[if_pos h]
  rfl
 |false=>
  unfold Plt.fmt
  rw[if_neg (by rw[h];decide)]
  rfl
theorem flt_emp (f:Flt):f.fmt.isEmpty=!f.ok:=by
 cases h:f.ok with
 |true=>
  unfold Flt.fmt
  rw[if_pos h]
  simp
 |false=>
  unfold Flt.fmt
  rw[if_neg (by rw[h];decide)]
  rfl
theorem bad_faults (lo hi:Int):∀(l:List Flaw) (w:Wr),(wFaults lo hi l w).2=(w.2||!l.all (flawB lo hi))
 |[],w=>by show w.2=_;simp
 |f::r,w=>by
  unfold wFaults
  cases c:flawB lo hi f with
  |true=>
   rw[if_pos rfl,bad_faults lo hi r,bad_word]
   have:(wFault f).isEmpty=false:=by
    cases h:wFault f with
    |nil=>exact absurd h (wFault_ne f)
    |cons a b=>rfl
   rw[this,List.all_cons,c]
   simp
  |false=>
   rw[if_neg (by decide),List.all_cons,c]
   simp
theorem revN_emp {k:Int} (h:1<=k/\k<=5):(revN k).isEmpty=false:=by
 have:k=1\/k=2\/k=3\/k=4\/k=5:=by omega
 rcases this with rfl|rfl|rfl|rfl|rfl<;>rfl
theorem bad_rev (w:Wr) (r:Rev):(wRev w r).2=(w.2||!revB r):=by
 unfold wRev revB
 by_cases h:1<=r.k/\r.k<=5
 ·rw[if_pos h,decide_eq_true h]
  by_cases h4:4<=r.k
  ·rw[if_pos h4,decide_eq_false (by omega:¬r.k<=3)]
   simp only[bad_word,revN_emp h,flt_emp,Bool.or_false,Bool.true_and,Bool.false_or]
   by_cases h0:r.amt=0
   ·rw[decide_eq_true h0,h0,show numB 0=true from rfl]
    simp
   ·rw[decide_eq_false h0]
    simp
  ·rw[if_neg h4,decide_eq_true (by omega:r.k<=3),bad_num,bad_word,bad_word,revN_emp h,flt_emp]
   cases w.2<;>cases r.flt.ok<;>cases numB r.amt<;>rfl
 ·rw[if_neg h,decide_eq_false h]
  simp
theorem act_bad {x:Acx} (hk:1<=x.k/\x.k<=14) (ho:x=only x):(wAct ([],false) x).2=!bodyB x:=by
 have z:numB 0=true:=rfl
 unfold wAct bodyB numsB
 by_cases h1:x.k=1
 ·rw[if_pos h1,if_pos h1,bad_faults,bad_faults]
  have:(if x.lost=true then wWord (wWord ([],false) sTick) sLost else wWord ([],false) sTick).2=false:=by
   cases x.lost<;>rfl
  rw[this]
  cases x.mv.all (flawB 1 2)<;>cases x.gl.all (flawB 3 6)<;>rfl
 rw[if_neg h1,if_neg h1]
 by_cases h2:x.k=2
 ·have e:=ho
  unfold only at e
  rw[if_neg h1,if_pos (.inl h2)] at e
  have e1:=congrArg Acx.img e
  have e2:=congrArg Acx.dev e
  have e3:=congrArg Acx.con e
  simp only[A0] at e1 e2 e3
  rw[if_pos h2,if_neg (by omega),if_neg (by omega),if_neg (by omega),if_pos (by omega),bad_num,bad_word,bad_word,plt_emp,e1,e2,e3,z]
  cases x.plt.ok<;>cases numB x.node<;>rfl
 rw[if_neg h2]
 by_cases h3:x.k=3
 ·rw[if_pos h3,if_pos h3]
  rfl
 rw[if_neg h3,if_neg h3]
 by_cases h4:x.k=4
 ·have e:=ho
  unfold only at e
  rw[if_neg h1,if_neg (by omega),if_neg h3,if_pos h4] at e
  have e1:=congrArg Acx.node e
  have e2:=congrArg Acx.dev e
  have e3:=congrArg Acx.con e
  simp only[A0] at e1 e2 e3
  have hc:(if x.clr=true then sClear else sAlarm).isEmpty=false:=by cases x.clr<;>rfl
  rw[if_pos h4,bad_word,bad_num,bad_word,hc,if_neg (by omega),if_neg (by omega),if_neg (by omega),e1,e2,e3,z]
  cases numB x.img<;>rfl
 rw[if_neg h4]
 by_cases h5:x.k=5
 ·rw[if_pos h5,if_pos h5,bad_rev]
  rfl
 rw[if_neg h5,if_neg h5]
 by_cases h6:x.k=6
 ·have e:=ho
  unfold only at e
  rw[if_neg h1,if_neg (by omega),if_neg h3,if_neg h4,if_neg h5,if_pos (.inl h6)] at e
  have e1:=congrArg Acx.img e
  have e2:=congrArg Acx.dev e
  have e3:=congrArg Acx.con e
  simp only[A0] at e1 e2 e3
  rw[if_pos h6,if_neg (by omega),if_neg (by omega),bad_num,bad_word,e1,e2,e3,z]
  cases numB x.node<;>rfl
 rw[if_neg h6]
 by_cases h7:x.k=7
 ·have e:=ho
  unfold only at e
  rw[if_neg h1,if_neg (by omega),if_neg h3,if_neg h4,if_neg h5,if_pos (.inr h7)] at e
  have e1:=congrArg Acx.img e
  have e2:=congrArg Acx.dev e
  have e3:=congrArg Acx.con e
  simp only[A0] at e1 e2 e3
  rw[if_pos h7,if_neg (by omega),if_neg (by omega),bad_num,bad_word,e1,e2,e3,z]
  cases numB x.node<;>rfl
 rw[if_neg h7]
 by_cases h8:x.k=8
 ·have e:=ho
  unfold only at e
  rw[if_neg h1,if_neg (by omega),if_neg h3,if_neg h4,if_neg h5,if_neg (by omega),if_pos h8] at e
  have e1:=congrArg Acx.img e
  simp only[A0] at e1
  rw[if_pos h8,if_neg (by omega),if_pos (by omega),bad_num2,bad_word,bad_num,bad_word,plt_emp,e1,z]
  cases x.plt.ok<;>cases numB x.node<;>cases numB x.dev<;>cases numB x.con<;>rfl
 rw[if_neg h8]
 by_cases h9:x.k=9
 ·have e:=ho
  unfold only at e
  rw[if_neg h1,if_neg (by omega),if_neg h3,if_neg h4,if_neg h5,if_neg (by omega),if_neg h8,if_pos h9] at e
  have e1:=congrArg Acx.img e
  have e2:=congrArg Acx.node e
  simp only[A0] at e1 e2
  rw[if_pos h9,if_neg (by omega),if_pos (by omega),bad_num,bad_word,bad_num,bad_word,plt_emp,e1,e2,z]
  cases x.plt.ok<;>cases numB x.dev<;>cases numB x.con<;>rfl
 rw[if_neg h9]
 by_cases h10:x.k=10
 ·have e:=ho
  unfold only at e
  rw[if_neg h1,if_pos (.inr h10)] at e
  have e1:=congrArg Acx.img e
  have e2:=congrArg Acx.dev e
  have e3:=congrArg Acx.con e
  simp only[A0] at e1 e2 e3
  rw[if_pos h10,if_neg (by omega),if_pos (by omega),bad_num,bad_word,bad_word,plt_emp,e1,e2,e3,z]
  cases x.plt.ok<;>cases numB x.node<;>rfl
 rw[if_neg h10]
 by_cases h11:x.k=11
 ·have e:=ho
  unfold only at e
  rw[if_neg h1,if_neg (by omega),if_neg h3,if_neg h4,if_neg h5,if_neg (by omega),if_neg h8,if_neg h9,if_pos (.inl h11)] at e
  have e1:=congrArg Acx.img e
  have e2:=congrArg Acx.node e
  have e3:=congrArg Acx.con e
  simp only[A0] at e1 e2 e3
  rw[if_pos h11,if_neg (by omega),if_neg (by omega),bad_num,bad_word,e1,e2,e3,z]
  cases numB x.dev<;>rfl
 rw[if_neg h11]
 by_cases h12:x.k=12
 ·have e:=ho
  unfold only at e
  rw[if_neg h1,if_neg (by omega),if_neg h3,if_neg h4,if_neg h5,if_neg (by omega),if_neg h8,if_neg h9,if_pos (.inr h12)] at e
  have e1:=congrArg Acx.img e
  have e2:=congrArg Acx.node e
  have e3:=congrArg Acx.con e
  simp only[A0] at e1 e2 e3
  rw[if_pos h12,if_neg (by omega),if_neg (by omega),bad_num,bad_word,e1,e2,e3,z]
  cases numB x.dev<;>rfl
 rw[if_neg h12]
 by_cases h13:x.k=13
 ·rw[if_pos h13,if_pos h13,bad_word,bad_word,flt_emp]
  rfl
 have e:=ho
 unfold only at e
 rw[if_neg h1,if_neg (by omega),if_neg h3,if_neg h4,if_neg h5,if_neg (by omega),if_neg h8,if_neg h9,if_neg (by omega),if_neg h13] at e
 have e1:=congrArg Acx.img e
 have e2:=congrArg Acx.node e
 have e3:=congrArg Acx.con e
 have e4:=congrArg Acx.dev e
 simp only[A0] at e1 e2 e3 e4
 rw[if_neg h13,if_neg h13,if_neg (by omega),bad_word,e1,e2,e3,e4,z]
 rfl
theorem plainA_line (x:Acx):plainA x=(lineS x).isSome:=by
 unfold plainA lineS
 by_cases hk:1<=x.k/\x.k<=14
 ·by_cases ho:x=only x
  ·rw[decide_eq_true hk,decide_eq_true ho,Bool.true_and,Bool.true_and]
   have:=act_bad hk ho
   cases hb:bodyB x with
   |true=>
    rw[hb] at this
    rw[if_pos ⟨hk.1,hk.2,ho,this⟩]
    rfl
   |false=>
    rw[hb] at this
    rw[if_neg (fun h=>by rw[this] at h;exact absurd h.2.2.2 (by decide))]
    rfl
  ·rw[decide_eq_false ho,if_neg (fun h=>ho h.2.2.1)]
   simp
 ·rw[decide_eq_false hk,if_neg (fun h=>hk ⟨h.1,h.2.1⟩)]
  rfl
open Go.Scr
theorem revB_n0 {r:Rev} (h:decide (r.k<1)=true):revB r=false:=by
 unfold revB
 rw[decide_eq_false (by have:=of_decide_eq_true h;omega)]
 rfl
theorem revB_n1 {r:Rev} (h:decide (5<r.k)=true):revB r=false:=by
 unfold revB
 rw[decide_eq_false (by have:=of_decide_eq_true h;omega)]
 rfl
theorem revB_n2 {r:Rev} (h:r.flt.ok=false):revB r=false:=by
 unfold revB
 rw[h,Bool.false_and,Bool.and_false]
theorem revB_yes {r:Rev} (h0:decide (r.k<1)=false) (h1:decide (5<r.k)=false) (h2:r.flt.ok=true):revB r=(numB r.amt&&(decide (r.k<=3)||decide (r.amt=0))):=by
 unfold revB
 rw[h2,decide_eq_true (by have:=of_decide_eq_false h0;have:=of_decide_eq_false h1;omega),Bool.true_and,Bool.true_and]
theorem plain_lo (x:Acx) (hk:x.k<1):SatG Tryz.prog tab 37 [] [x.av] [] (B false):=by
 have k1:decide (x.k<1)=true:=decide_eq_true hk
 refine uFN Tryz.func37 Tryz.ntmps37 ?_;intro w e X hC
 refine uA ?_
 refine uD1 @k1 ?_;intro K hK
 refine uH ?_
 refine hK _ ?_;clear hK K
 refine uT ?_
 repeat refine uA ?_
 (refine awp_ret (ret1 uRT ?_);try rfl)
theorem plain_hi (x:Acx) (hk:14<x.k):SatG Tryz.prog tab 37 [] [x.av] [] (B false):=by
 have k1:=uDf (x.k<1)
 have k2:decide (14<x.k)=true:=decide_eq_true hk
 refine uFN Tryz.func37 Tryz.ntmps37 ?_;intro w e X hC
 refine uA ?_
 refine uD1 (uI @k1 @k2) ?_;intro K hK
 refine uH ?_
 refine hK _ ?_;clear hK K
 refine uT ?_
 repeat refine uA ?_
 (refine awp_ret (ret1 uRT ?_);try rfl)
theorem plain_sp (x:Acx) (hk:1<=x.k/\x.k<=14) (h1:x.mv.length<=1000000) (h2:x.gl.length<=1000000) (ho:¬x=only x) (h3:(only x).mv.length<=1000000) (h4:(only x).gl.length<=1000000):SatG Tryz.prog tab 37 [] [x.av] [] (B false):=by
 have k1:=uDf (x.k<1)
 have k2:=uDf (14<x.k)
 have g1:=only_sat x
 have g2:=rsame_sat x (only x) h1 h3 h2 h4
 rw[decide_eq_false ho] at g2
 refine uFN Tryz.func37 Tryz.ntmps37 ?_;intro w e X hC
 refine uA ?_
 refine uD1 (uI @k1 @k2) ?_;intro K hK
 refine uH ?_
 refine callP uTS (g1) uTS uTS uTS ?_;refine uS ?_
 refine uH ?_
 refine callF uTS (g2) uTS uTS uTS ?_;refine uS ?_
 refine uH ?_
 refine hK _ ?_;clear hK K
 refine uT ?_
 repeat refine uA ?_
 (refine awp_ret (ret1 uRT ?_);try rfl)
theorem plain_1 (x:Acx) (hk:1<=x.k/\x.k<=14) (h1:x.mv.length<=1000000) (h2:x.gl.length<=1000000) (ho:x=only x) (h3:(only x).mv.length<=1000000) (h4:(only x).gl.length<=1000000) (hq:x.k=1):SatG Tryz.prog tab 37 [] [x.av] [] (B (x.mv.all (flawB 1 2)&&x.gl.all (flawB 3 6))):=by
 have k1:=uDf (x.k<1)
 have k2:=uDf (14<x.k)
 have g1:=only_sat x
 have g2:=rsame_sat x (only x) h1 h3 h2 h4
 have e1:=uDt (x.k=1)
 have e3:=uDf (x.k=3)
 have e5:=uDf (x.k=5)
 have e2:=uDf (x.k=2)
 have e10:=uDf (x.k=10)
 have e8:=uDf (x.k=8)
 have e9:=uDf (x.k=9)
 have e13:=uDf (x.k=13)
 rw[decide_eq_true ho] at g2
 refine uFN Tryz.func37 Tryz.ntmps37 ?_;intro w e X hC
 refine uA ?_
 refine uD1 (uI @k1 @k2) ?_;intro K hK
 refine uH ?_
 refine callP uTS (g1) uTS uTS uTS ?_;refine uS ?_
 refine uH ?_
 refine callF uTS (g2) uTS uTS uTS ?_;refine uS ?_
 refine uH ?_
 refine hK _ ?_;clear hK K
 refine uF ?_
 repeat first|refine uC ?_|refine uA1 (uI @e1 (uI @e3 (uI @e5 (uI @e2 (uI @e10 (uI @e8 (uI @e9 @e13))))))) ?_
 clear g1 g2
 have g0:=rfaults_sat x.mv 1 2 h1
 have g1:=rfaults_sat x.gl 3 6 h2
 cases e0:x.mv.all (flawB 1 2) with
 |false=>
  rw[e0] at g0
  refine uR ?_;intro K hK
  refine uH ?_
  refine callF uTS (g0) uTS uTS uTS ?_;refine uS ?_
  try refine uS ?_
  refine uH ?_
  refine hK _ ?_;clear hK K
  (refine awp_ret (ret1 uRT ?_);try rfl)
 |true=>
  rw[e0] at g0
  cases e1:x.gl.all (flawB 3 6) with
  |false=>
   rw[e1] at g1
   refine uR ?_;intro K hK
   refine uH ?_
   refine callF uTS (g0) uTS uTS uTS ?_;refine uS ?_
   try refine uS ?_
   refine uH ?_
   refine callF uTS (g1) uTS uTS uTS ?_;refine uS ?_
   try refine uS ?_
   refine uH ?_
   refine hK _ ?_;clear hK K
   (refine awp_ret (ret1 uRT ?_);try rfl)
  |true=>
   rw[e1] at g1
   refine uR ?_;intro K hK
   refine uH ?_
   refine callF uTS (g0) uTS uTS uTS ?_;refine uS ?_
   try refine uS ?_
   refine uH ?_
   refine callF uTS (g1) uTS uTS uTS ?_;refine uS ?_
   try refine uS ?_
   refine uH ?_
   refine hK _ ?_;clear hK K
   (refine awp_ret (ret1 uRT ?_);try rfl)
theorem plain_3 (x:Acx) (hk:1<=x.k/\x.k<=14) (h1:x.mv.length<=1000000) (h2:x.gl.length<=1000000) (ho:x=only x) (h3:(only x).mv.length<=1000000) (h4:(only x).gl.length<=1000000) (hq:x.k=3) (h5:x.txt.length<=1000000):SatG Tryz.prog tab 37 [] [x.av] [] (B (txtB x.txt)):=by
 have k1:=uDf (x.k<1)
 have k2:=uDf (14<x.k)
 have g1:=only_sat x
 have g2:=rsame_sat x (only x) h1 h3 h2 h4
 have e1:=uDf (x.k=1)
 have e3:=uDt (x.k=3)
 have e5:=uDf (x.k=5)
 have e2:=uDf (x.k=2)
 have e10:=uDf (x.k=10)
 have e8:=uDf (x.k=8)
 have e9:=uDf (x.k=9)
 have e13:=uDf (x.k=13)
 rw[decide_eq_true ho] at g2
 refine uFN Tryz.func37 Tryz.ntmps37 ?_;intro w e X hC
 refine uA ?_
 refine uD1 (uI @k1 @k2) ?_;intro K hK
 refine uH ?_
 refine callP uTS (g1) uTS uTS uTS ?_;refine uS ?_
 refine uH ?_
 refine callF uTS (g2) uTS uTS uTS ?_;refine uS ?_
 refine uH ?_
 refine hK _ ?_;clear hK K
 refine uF ?_
 repeat first|refine uC ?_|refine uA1 (uI @e1 (uI @e3 (uI @e5 (uI @e2 (uI @e10 (uI @e8 (uI @e9 @e13))))))) ?_
 clear g1 g2
 have g0:=rtext_sat x.txt h5
 refine uR ?_;intro K hK
 refine uH ?_
 refine callF uTS (g0) uTS uTS uTS ?_;refine uS ?_
 refine uH ?_
 refine hK _ ?_;clear hK K
 (refine awp_ret (ret1 uRT ?_);try rfl)
theorem plain_13 (x:Acx) (hk:1<=x.k/\x.k<=14) (h1:x.mv.length<=1000000) (h2:x.gl.length<=1000000) (ho:x=only x) (h3:(only x).mv.length<=1000000) (h4:(only x).gl.length<=1000000) (hq:x.k=13) (h5:x.flt.car.length<=1000000) (h6:x.flt.suf.length<=1000000):SatG Tryz.prog tab 37 [] [x.av] [] (B (x.flt.ok)):=by
 have k1:=uDf (x.k<1)
 have k2:=uDf (14<x.k)
 have g1:=only_sat x
 have g2:=rsame_sat x (only x) h1 h3 h2 h4
 have e1:=uDf (x.k=1)
 have e3:=uDf (x.k=3)
 have e5:=uDf (x.k=5)
 have e2:=uDf (x.k=2)
 have e10:=uDf (x.k=10)
 have e8:=uDf (x.k=8)
 have e9:=uDf (x.k=9)
 have e13:=uDt (x.k=13)
 rw[decide_eq_true ho] at g2
 refine uFN Tryz.func37 Tryz.ntmps37 ?_;intro w e X hC
 refine uA ?_
 refine uD1 (uI @k1 @k2) ?_;intro K hK
 refine uH ?_
 refine callP uTS (g1) uTS uTS uTS ?_;refine uS ?_
 refine uH ?_
 refine callF uTS (g2) uTS uTS uTS ?_;refine uS ?_
 refine uH ?_
 refine hK _ ?_;clear hK K
 refine uF ?_
 repeat first|refine uC ?_|refine uA1 (uI @e1 (uI @e3 (uI @e5 (uI @e2 (uI @e10 (uI @e8 (uI @e9 @e13))))))) ?_
 clear g1 g2
 have g0:=rfvalid_sat x.flt h5 h6
 refine uR ?_;intro K hK
 refine uH ?_
 refine callF uTS (g0) uTS uTS uTS ?_;refine uS ?_
 refine uH ?_
 refine hK _ ?_;clear hK K
 (refine awp_ret (ret1 uRT ?_);try rfl)
theorem plain_0 (x:Acx) (hk:1<=x.k/\x.k<=14) (h1:x.mv.length<=1000000) (h2:x.gl.length<=1000000) (ho:x=only x) (h3:(only x).mv.length<=1000000) (h4:(only x).gl.length<=1000000) (hq:¬x.k=1/\¬x.k=3/\¬x.k=5/\¬x.k=2/\¬x.k=10/\¬x.k=8/\¬x.k=9/\¬x.k=13):SatG Tryz.prog tab 37 [] [x.av] [] (B (numsB x)):=by
 have k1:=uDf (x.k<1)
 have k2:=uDf (14<x.k)
 have g1:=only_sat x
 have g2:=rsame_sat x (only x) h1 h3 h2 h4
 have e1:=uDf (x.k=1)
 have e3:=uDf (x.k=3)
 have e5:=uDf (x.k=5)
 have e2:=uDf (x.k=2)
 have e10:=uDf (x.k=10)
 have e8:=uDf (x.k=8)
 have e9:=uDf (x.k=9)
 have e13:=uDf (x.k=13)
 rw[decide_eq_true ho] at g2
 refine uFN Tryz.func37 Tryz.ntmps37 ?_;intro w e X hC
 refine uA ?_
 refine uD1 (uI @k1 @k2) ?_;intro K hK
 refine uH ?_
 refine callP uTS (g1) uTS uTS uTS ?_;refine uS ?_
 refine uH ?_
 refine callF uTS (g2) uTS uTS uTS ?_;refine uS ?_
 refine uH ?_
 refine hK _ ?_;clear hK K
 refine uF ?_
 repeat first|refine uC ?_|refine uA1 (uI @e1 (uI @e3 (uI @e5 (uI @e2 (uI @e10 (uI @e8 (uI @e9 @e13))))))) ?_
 clear g1 g2
 have g0:SatG Tryz.prog tab 70 [] [I x.node] [] (B (numB x.node)):=num_sat _
 have g1:SatG Tryz.prog tab 70 [] [I x.img] [] (B (numB x.img)):=num_sat _
 have g2:SatG Tryz.prog tab 70 [] [I x.dev] [] (B (numB x.dev)):=num_sat _
 have g3:SatG Tryz.prog tab 70 [] [I x.con] [] (B (numB x.con)):=num_sat _
 rw[show numsB x=(numB x.node&&(numB x.img&&(numB x.dev&&numB x.con))) from rfl]
 cases e0:numB x.node with
 |false=>
  rw[e0] at g0
  refine uR ?_;intro K hK
  refine uH ?_
  refine callF uTS (g0) uTS uTS uTS ?_;refine uS ?_
  try refine uS ?_
  refine uH ?_
  refine hK _ ?_;clear hK K
  (refine awp_ret (ret1 uRT ?_);try rfl)
 |true=>
  rw[e0] at g0
  cases e1:numB x.img with
  |false=>
   rw[e1] at g1
   refine uR ?_;intro K hK
   refine uH ?_
   refine callF uTS (g0) uTS uTS uTS ?_;refine uS ?_
   try refine uS ?_
   refine uH ?_
   refine callF uTS (g1) uTS uTS uTS ?_;refine uS ?_
   try refine uS ?_
   refine uH ?_
   refine hK _ ?_;clear hK K
   (refine awp_ret (ret1 uRT ?_);try rfl)
  |true=>
   rw[e1] at g1
   cases e2:numB x.dev with
   |false=>
    rw[e2] at g2
    refine uR ?_;intro K hK
    refine uH ?_
    refine callF uTS (g0) uTS uTS uTS ?_;refine uS ?_
    try refine uS ?_
    refine uH ?_
    refine callF uTS (g1) uTS uTS uTS ?_;refine uS ?_
    try refine uS ?_
    refine uH ?_
    refine callF uTS (g2) uTS uTS uTS ?_;refine uS ?_
    try refine uS ?_
    refine uH ?_
    refine hK _ ?_;clear hK K
    (refine awp_ret (ret1 uRT ?_);try rfl)
   |true=>
    rw[e2] at g2
    cases e3:numB x.con with
    |false=>
     rw[e3] at g3
     refine uR ?_;intro K hK
     refine uH ?_
     refine callF uTS (g0) uTS uTS uTS ?_;refine uS ?_
     try refine uS ?_
     refine uH ?_
     refine callF uTS (g1) uTS uTS uTS ?_;refine uS ?_
     try refine uS ?_
     refine uH ?_
     refine callF uTS (g2) uTS uTS uTS ?_;refine uS ?_
     try refine uS ?_
     refine uH ?_
     refine callF uTS (g3) uTS uTS uTS ?_;refine uS ?_
     try refine uS ?_
     refine uH ?_
     refine hK _ ?_;clear hK K
     (refine awp_ret (ret1 uRT ?_);try rfl)
    |true=>
     rw[e3] at g3
     refine uR ?_;intro K hK
     refine uH ?_
     refine callF uTS (g0) uTS uTS uTS ?_;refine uS ?_
     try refine uS ?_
     refine uH ?_
     refine callF uTS (g1) uTS uTS uTS ?_;refine uS ?_
     try refine uS ?_
     refine uH ?_
     refine callF uTS (g2) uTS uTS uTS ?_;refine uS ?_
     try refine uS ?_
     refine uH ?_
     refine callF uTS (g3) uTS uTS uTS ?_;refine uS ?_
     try refine uS ?_
     refine uH ?_
     refine hK _ ?_;clear hK K
     (refine awp_ret (ret1 uRT ?_);try rfl)
theorem plain_2 (x:Acx) (hk:1<=x.k/\x.k<=14) (h1:x.mv.length<=1000000) (h2:x.gl.length<=1000000) (ho:x=only x) (h3:(only x).mv.length<=1000000) (h4:(only x).gl.length<=1000000) (hq:x.k=2):SatG Tryz.prog tab 37 [] [x.av] [] (B (x.plt.ok&&numsB x)):=by
 have k1:=uDf (x.k<1)
 have k2:=uDf (14<x.k)
 have g1:=only_sat x
 have g2:=rsame_sat x (only x) h1 h3 h2 h4
 have e1:=uDf (x.k=1)
 have e3:=uDf (x.k=3)
 have e5:=uDf (x.k=5)
 have e2:=uDt (x.k=2)
 have e10:=uDf (x.k=10)
 have e8:=uDf (x.k=8)
 have e9:=uDf (x.k=9)
 have e13:=uDf (x.k=13)
 rw[decide_eq_true ho] at g2
 refine uFN Tryz.func37 Tryz.ntmps37 ?_;intro w e X hC
 refine uA ?_
 refine uD1 (uI @k1 @k2) ?_;intro K hK
 refine uH ?_
 refine callP uTS (g1) uTS uTS uTS ?_;refine uS ?_
 refine uH ?_
 refine callF uTS (g2) uTS uTS uTS ?_;refine uS ?_
 refine uH ?_
 refine hK _ ?_;clear hK K
 refine uF ?_
 repeat first|refine uC ?_|refine uA1 (uI @e1 (uI @e3 (uI @e5 (uI @e2 (uI @e10 (uI @e8 (uI @e9 @e13))))))) ?_
 clear g1 g2
 have gp:=rvalid_sat x.plt
 refine uR ?_;intro K hK
 refine uH ?_
 refine callF uTS (gp) uTS uTS uTS ?_;refine uS ?_
 refine uH ?_
 refine hK _ ?_;clear hK K
 cases ep:x.plt.ok with
 |false=>
  refine uT ?_
  repeat refine uA ?_
  (refine awp_ret (ret1 uRT ?_);try rfl)
 |true=>
  refine uF ?_
  have g0:SatG Tryz.prog tab 70 [] [I x.node] [] (B (numB x.node)):=num_sat _
  have g1:SatG Tryz.prog tab 70 [] [I x.img] [] (B (numB x.img)):=num_sat _
  have g2:SatG Tryz.prog tab 70 [] [I x.dev] [] (B (numB x.dev)):=num_sat _
  have g3:SatG Tryz.prog tab 70 [] [I x.con] [] (B (numB x.con)):=num_sat _
  rw[show numsB x=(numB x.node&&(numB x.img&&(numB x.dev&&numB x.con))) from rfl]
  cases e0:numB x.node with
  |false=>
   rw[e0] at g0
   refine uR ?_;intro K hK
   refine uH ?_
   refine callF uTS (g0) uTS uTS uTS ?_;refine uS ?_
   try refine uS ?_
   refine uH ?_
   refine hK _ ?_;clear hK K
   (refine awp_ret (ret1 uRT ?_);try rfl)
  |true=>
   rw[e0] at g0
   cases e1:numB x.img with
   |false=>
    rw[e1] at g1
    refine uR ?_;intro K hK
    refine uH ?_
    refine callF uTS (g0) uTS uTS uTS ?_;refine uS ?_
    try refine uS ?_
    refine uH ?_
    refine callF uTS (g1) uTS uTS uTS ?_;refine uS ?_
    try refine uS ?_
    refine uH ?_
    refine hK _ ?_;clear hK K
    (refine awp_ret (ret1 uRT ?_);try rfl)
   |true=>
    rw[e1] at g1
    cases e2:numB x.dev with
    |false=>
     rw[e2] at g2
     refine uR ?_;intro K hK
     refine uH ?_
     refine callF uTS (g0) uTS uTS uTS ?_;refine uS ?_
     try refine uS ?_
     refine uH ?_
     refine callF uTS (g1) uTS uTS uTS ?_;refine uS ?_
     try refine uS ?_
     refine uH ?_
     refine callF uTS (g2) uTS uTS uTS ?_;refine uS ?_
     try refine uS ?_
     refine uH ?_
     refine hK _ ?_;clear hK K
     (refine awp_ret (ret1 uRT ?_);try rfl)
    |true=>
     rw[e2] at g2
     cases e3:numB x.con with
     |false=>
      rw[e3] at g3
      refine uR ?_;intro K hK
      refine uH ?_
      refine callF uTS (g0) uTS uTS uTS ?_;refine uS ?_
      try refine uS ?_
      refine uH ?_
      refine callF uTS (g1) uTS uTS uTS ?_;refine uS ?_
      try refine uS ?_
      refine uH ?_
      refine callF uTS (g2) uTS uTS uTS ?_;refine uS ?_
      try refine uS ?_
      refine uH ?_
      refine callF uTS (g3) uTS uTS uTS ?_;refine uS ?_
      try refine uS ?_
      refine uH ?_
      refine hK _ ?_;clear hK K
      (refine awp_ret (ret1 uRT ?_);try rfl)
     |true=>
      rw[e3] at g3
      refine uR ?_;intro K hK
      refine uH ?_
      refine callF uTS (g0) uTS uTS uTS ?_;refine uS ?_
      try refine uS ?_
      refine uH ?_
      refine callF uTS (g1) uTS uTS uTS ?_;refine uS ?_
      try refine uS ?_
      refine uH ?_
      refine callF uTS (g2) uTS uTS uTS ?_;refine uS ?_
      try refine uS ?_
      refine uH ?_
      refine callF uTS (g3) uTS uTS uTS ?_;refine uS ?_
      try refine uS ?_
      refine uH ?_
      refine hK _ ?_;clear hK K
      (refine awp_ret (ret1 uRT ?_);try rfl)
theorem plain_10 (x:Acx) (hk:1<=x.k/\x.k<=14) (h1:x.mv.length<=1000000) (h2:x.gl.length<=1000000) (ho:x=only x) (h3:(only x).mv.length<=1000000) (h4:(only x).gl.length<=1000000) (hq:x.k=10):SatG Tryz.prog tab 37 [] [x.av] [] (B (x.plt.ok&&numsB x)):=by
 have k1:=uDf (x.k<1)
 have k2:=uDf (14<x.k)
 have g1:=only_sat x
 have g2:=rsame_sat x (only x) h1 h3 h2 h4
 have e1:=uDf (x.k=1)
 have e3:=uDf (x.k=3)
 have e5:=uDf (x.k=5)
 have e2:=uDf (x.k=2)
 have e10:=uDt (x.k=10)
 have e8:=uDf (x.k=8)
 have e9:=uDf (x.k=9)
 have e13:=uDf (x.k=13)
 rw[decide_eq_true ho] at g2
 refine uFN Tryz.func37 Tryz.ntmps37 ?_;intro w e X hC
 refine uA ?_
 refine uD1 (uI @k1 @k2) ?_;intro K hK
 refine uH ?_
 refine callP uTS (g1) uTS uTS uTS ?_;refine uS ?_
 refine uH ?_
 refine callF uTS (g2) uTS uTS uTS ?_;refine uS ?_
 refine uH ?_
 refine hK _ ?_;clear hK K
 refine uF ?_
 repeat first|refine uC ?_|refine uA1 (uI @e1 (uI @e3 (uI @e5 (uI @e2 (uI @e10 (uI @e8 (uI @e9 @e13))))))) ?_
 clear g1 g2
 have gp:=rvalid_sat x.plt
 refine uR ?_;intro K hK
 refine uH ?_
 refine callF uTS (gp) uTS uTS uTS ?_;refine uS ?_
 refine uH ?_
 refine hK _ ?_;clear hK K
 cases ep:x.plt.ok with
 |false=>
  refine uT ?_
  repeat refine uA ?_
  (refine awp_ret (ret1 uRT ?_);try rfl)
 |true=>
  refine uF ?_
  have g0:SatG Tryz.prog tab 70 [] [I x.node] [] (B (numB x.node)):=num_sat _
  have g1:SatG Tryz.prog tab 70 [] [I x.img] [] (B (numB x.img)):=num_sat _
  have g2:SatG Tryz.prog tab 70 [] [I x.dev] [] (B (numB x.dev)):=num_sat _
  have g3:SatG Tryz.prog tab 70 [] [I x.con] [] (B (numB x.con)):=num_sat _
  rw[show numsB x=(numB x.node&&(numB x.img&&(numB x.dev&&numB x.con))) from rfl]
  cases e0:numB x.node with
  |false=>
   rw[e0] at g0
   refine uR ?_;intro K hK
   refine uH ?_
   refine callF uTS (g0) uTS uTS uTS ?_;refine uS ?_
   try refine uS ?_
   refine uH ?_
   refine hK _ ?_;clear hK K
   (refine awp_ret (ret1 uRT ?_);try rfl)
  |true=>
   rw[e0] at g0
   cases e1:numB x.img with
   |false=>
    rw[e1] at g1
    refine uR ?_;intro K hK
    refine uH ?_
    refine callF uTS (g0) uTS uTS uTS ?_;refine uS ?_
    try refine uS ?_
    refine uH ?_
    refine callF uTS (g1) uTS uTS uTS ?_;refine uS ?_
    try refine uS ?_
    refine uH ?_
    refine hK _ ?_;clear hK K
    (refine awp_ret (ret1 uRT ?_);try rfl)
   |true=>
    rw[e1] at g1
    cases e2:numB x.dev with
    |false=>
     rw[e2] at g2
     refine uR ?_;intro K hK
     refine uH ?_
     refine callF uTS (g0) uTS uTS uTS ?_;refine uS ?_
     try refine uS ?_
     refine uH ?_
     refine callF uTS (g1) uTS uTS uTS ?_;refine uS ?_
     try refine uS ?_
     refine uH ?_
     refine callF uTS (g2) uTS uTS uTS ?_;refine uS ?_
     try refine uS ?_
     refine uH ?_
     refine hK _ ?_;clear hK K
     (refine awp_ret (ret1 uRT ?_);try rfl)
    |true=>
     rw[e2] at g2
     cases e3:numB x.con with
     |false=>
      rw[e3] at g3
      refine uR ?_;intro K hK
      refine uH ?_
      refine callF uTS (g0) uTS uTS uTS ?_;refine uS ?_
      try refine uS ?_
      refine uH ?_
      refine callF uTS (g1) uTS uTS uTS ?_;refine uS ?_
      try refine uS ?_
      refine uH ?_
      refine callF uTS (g2) uTS uTS uTS ?_;refine uS ?_
      try refine uS ?_
      refine uH ?_
      refine callF uTS (g3) uTS uTS uTS ?_;refine uS ?_
      try refine uS ?_
      refine uH ?_
      refine hK _ ?_;clear hK K
      (refine awp_ret (ret1 uRT ?_);try rfl)
     |true=>
      rw[e3] at g3
      refine uR ?_;intro K hK
      refine uH ?_
      refine callF uTS (g0) uTS uTS uTS ?_;refine uS ?_
      try refine uS ?_
      refine uH ?_
      refine callF uTS (g1) uTS uTS uTS ?_;refine uS ?_
      try refine uS ?_
      refine uH ?_
      refine callF uTS (g2) uTS uTS uTS ?_;refine uS ?_
      try refine uS ?_
      refine uH ?_
      refine callF uTS (g3) uTS uTS uTS ?_;refine uS ?_
      try refine uS ?_
      refine uH ?_
      refine hK _ ?_;clear hK K
      (refine awp_ret (ret1 uRT ?_);try rfl)
theorem plain_8 (x:Acx) (hk:1<=x.k/\x.k<=14) (h1:x.mv.length<=1000000) (h2:x.gl.length<=1000000) (ho:x=only x) (h3:(only x).mv.length<=1000000) (h4:(only x).gl.length<=1000000) (hq:x.k=8):SatG Tryz.prog tab 37 [] [x.av] [] (B (x.plt.ok&&numsB x)):=by
 have k1:=uDf (x.k<1)
 have k2:=uDf (14<x.k)
 have g1:=only_sat x
 have g2:=rsame_sat x (only x) h1 h3 h2 h4
 have e1:=uDf (x.k=1)
 have e3:=uDf (x.k=3)
 have e5:=uDf (x.k=5)
 have e2:=uDf (x.k=2)
 have e10:=uDf (x.k=10)
 have e8:=uDt (x.k=8)
 have e9:=uDf (x.k=9)
 have e13:=uDf (x.k=13)
 rw[decide_eq_true ho] at g2
 refine uFN Tryz.func37 Tryz.ntmps37 ?_;intro w e X hC
 refine uA ?_
 refine uD1 (uI @k1 @k2) ?_;intro K hK
 refine uH ?_
 refine callP uTS (g1) uTS uTS uTS ?_;refine uS ?_
 refine uH ?_
 refine callF uTS (g2) uTS uTS uTS ?_;refine uS ?_
 refine uH ?_
 refine hK _ ?_;clear hK K
 refine uF ?_
 repeat first|refine uC ?_|refine uA1 (uI @e1 (uI @e3 (uI @e5 (uI @e2 (uI @e10 (uI @e8 (uI @e9 @e13))))))) ?_
 clear g1 g2
 have gp:=rvalid_sat x.plt
 refine uR ?_;intro K hK
 refine uH ?_
 refine callF uTS (gp) uTS uTS uTS ?_;refine uS ?_
 refine uH ?_
 refine hK _ ?_;clear hK K
 cases ep:x.plt.ok with
 |false=>
  refine uT ?_
  repeat refine uA ?_
  (refine awp_ret (ret1 uRT ?_);try rfl)
 |true=>
  refine uF ?_
  have g0:SatG Tryz.prog tab 70 [] [I x.node] [] (B (numB x.node)):=num_sat _
  have g1:SatG Tryz.prog tab 70 [] [I x.img] [] (B (numB x.img)):=num_sat _
  have g2:SatG Tryz.prog tab 70 [] [I x.dev] [] (B (numB x.dev)):=num_sat _
  have g3:SatG Tryz.prog tab 70 [] [I x.con] [] (B (numB x.con)):=num_sat _
  rw[show numsB x=(numB x.node&&(numB x.img&&(numB x.dev&&numB x.con))) from rfl]
  cases e0:numB x.node with
  |false=>
   rw[e0] at g0
   refine uR ?_;intro K hK
   refine uH ?_
   refine callF uTS (g0) uTS uTS uTS ?_;refine uS ?_
   try refine uS ?_
   refine uH ?_
   refine hK _ ?_;clear hK K
   (refine awp_ret (ret1 uRT ?_);try rfl)
  |true=>
   rw[e0] at g0
   cases e1:numB x.img with
   |false=>
    rw[e1] at g1
    refine uR ?_;intro K hK
    refine uH ?_
    refine callF uTS (g0) uTS uTS uTS ?_;refine uS ?_
    try refine uS ?_
    refine uH ?_
    refine callF uTS (g1) uTS uTS uTS ?_;refine uS ?_
    try refine uS ?_
    refine uH ?_
    refine hK _ ?_;clear hK K
    (refine awp_ret (ret1 uRT ?_);try rfl)
   |true=>
    rw[e1] at g1
    cases e2:numB x.dev with
    |false=>
     rw[e2] at g2
     refine uR ?_;intro K hK
     refine uH ?_
     refine callF uTS (g0) uTS uTS uTS ?_;refine uS ?_
     try refine uS ?_
     refine uH ?_
     refine callF uTS (g1) uTS uTS uTS ?_;refine uS ?_
     try refine uS ?_
     refine uH ?_
     refine callF uTS (g2) uTS uTS uTS ?_;refine uS ?_
     try refine uS ?_
     refine uH ?_
     refine hK _ ?_;clear hK K
     (refine awp_ret (ret1 uRT ?_);try rfl)
    |true=>
     rw[e2] at g2
     cases e3:numB x.con with
     |false=>
      rw[e3] at g3
      refine uR ?_;intro K hK
      refine uH ?_
      refine callF uTS (g0) uTS uTS uTS ?_;refine uS ?_
      try refine uS ?_
      refine uH ?_
      refine callF uTS (g1) uTS uTS uTS ?_;refine uS ?_
      try refine uS ?_
      refine uH ?_
      refine callF uTS (g2) uTS uTS uTS ?_;refine uS ?_
      try refine uS ?_
      refine uH ?_
      refine callF uTS (g3) uTS uTS uTS ?_;refine uS ?_
      try refine uS ?_
      refine uH ?_
      refine hK _ ?_;clear hK K
      (refine awp_ret (ret1 uRT ?_);try rfl)
     |true=>
      rw[e3] at g3
      refine uR ?_;intro K hK
      refine uH ?_
      refine callF uTS (g0) uTS uTS uTS ?_;refine uS ?_
      try refine uS ?_
      refine uH ?_
      refine callF uTS (g1) uTS uTS uTS ?_;refine uS ?_
      try refine uS ?_
      refine uH ?_
      refine callF uTS (g2) uTS uTS uTS ?_;refine uS ?_
      try refine uS ?_
      refine uH ?_
      refine callF uTS (g3) uTS uTS uTS ?_;refine uS ?_
      try refine uS ?_
      refine uH ?_
      refine hK _ ?_;clear hK K
      (refine awp_ret (ret1 uRT ?_);try rfl)
theorem plain_9 (x:Acx) (hk:1<=x.k/\x.k<=14) (h1:x.mv.length<=1000000) (h2:x.gl.length<=1000000) (ho:x=only x) (h3:(only x).mv.length<=1000000) (h4:(only x).gl.length<=1000000) (hq:x.k=9):SatG Tryz.prog tab 37 [] [x.av] [] (B (x.plt.ok&&numsB x)):=by
 have k1:=uDf (x.k<1)
 have k2:=uDf (14<x.k)
 have g1:=only_sat x
 have g2:=rsame_sat x (only x) h1 h3 h2 h4
 have e1:=uDf (x.k=1)
 have e3:=uDf (x.k=3)
 have e5:=uDf (x.k=5)
 have e2:=uDf (x.k=2)
 have e10:=uDf (x.k=10)
 have e8:=uDf (x.k=8)
 have e9:=uDt (x.k=9)
 have e13:=uDf (x.k=13)
 rw[decide_eq_true ho] at g2
 refine uFN Tryz.func37 Tryz.ntmps37 ?_;intro w e X hC
 refine uA ?_
 refine uD1 (uI @k1 @k2) ?_;intro K hK
 refine uH ?_
 refine callP uTS (g1) uTS uTS uTS ?_;refine uS ?_
 refine uH ?_
 refine callF uTS (g2) uTS uTS uTS ?_;refine uS ?_
 refine uH ?_
 refine hK _ ?_;clear hK K
 refine uF ?_
 repeat first|refine uC ?_|refine uA1 (uI @e1 (uI @e3 (uI @e5 (uI @e2 (uI @e10 (uI @e8 (uI @e9 @e13))))))) ?_
 clear g1 g2
 have gp:=rvalid_sat x.plt
 refine uR ?_;intro K hK
 refine uH ?_
 refine callF uTS (gp) uTS uTS uTS ?_;refine uS ?_
 refine uH ?_
 refine hK _ ?_;clear hK K
 cases ep:x.plt.ok with
 |false=>
  refine uT ?_
  repeat refine uA ?_
  (refine awp_ret (ret1 uRT ?_);try rfl)
 |true=>
  refine uF ?_
  have g0:SatG Tryz.prog tab 70 [] [I x.node] [] (B (numB x.node)):=num_sat _
  have g1:SatG Tryz.prog tab 70 [] [I x.img] [] (B (numB x.img)):=num_sat _
  have g2:SatG Tryz.prog tab 70 [] [I x.dev] [] (B (numB x.dev)):=num_sat _
  have g3:SatG Tryz.prog tab 70 [] [I x.con] [] (B (numB x.con)):=num_sat _
  rw[show numsB x=(numB x.node&&(numB x.img&&(numB x.dev&&numB x.con))) from rfl]
  cases e0:numB x.node with
  |false=>
   rw[e0] at g0
   refine uR ?_;intro K hK
   refine uH ?_
   refine callF uTS (g0) uTS uTS uTS ?_;refine uS ?_
   try refine uS ?_
   refine uH ?_
   refine hK _ ?_;clear hK K
   (refine awp_ret (ret1 uRT ?_);try rfl)
  |true=>
   rw[e0] at g0
   cases e1:numB x.img with
   |false=>
    rw[e1] at g1
    refine uR ?_;intro K hK
    refine uH ?_
    refine callF uTS (g0) uTS uTS uTS ?_;refine uS ?_
    try refine uS ?_
    refine uH ?_
    refine callF uTS (g1) uTS uTS uTS ?_;refine uS ?_
    try refine uS ?_
    refine uH ?_
    refine hK _ ?_;clear hK K
    (refine awp_ret (ret1 uRT ?_);try rfl)
   |true=>
    rw[e1] at g1
    cases e2:numB x.dev with
    |false=>
     rw[e2] at g2
     refine uR ?_;intro K hK
     refine uH ?_
     refine callF uTS (g0) uTS uTS uTS ?_;refine uS ?_
     try refine uS ?_
     refine uH ?_
     refine callF uTS (g1) uTS uTS uTS ?_;refine uS ?_
     try refine uS ?_
     refine uH ?_
     refine callF uTS (g2) uTS uTS uTS ?_;refine uS ?_
     try refine uS ?_
     refine uH ?_
     refine hK _ ?_;clear hK K
     (refine awp_ret (ret1 uRT ?_);try rfl)
    |true=>
     rw[e2] at g2
     cases e3:numB x.con with
     |false=>
      rw[e3] at g3
      refine uR ?_;intro K hK
      refine uH ?_
      refine callF uTS (g0) uTS uTS uTS ?_;refine uS ?_
      try refine uS ?_
      refine uH ?_
      refine callF uTS (g1) uTS uTS uTS ?_;refine uS ?_
      try refine uS ?_
      refine uH ?_
      refine callF uTS (g2) uTS uTS uTS ?_;refine uS ?_
      try refine uS ?_
      refine uH ?_
      refine callF uTS (g3) uTS uTS uTS ?_;refine uS ?_
      try refine uS ?_
      refine uH ?_
      refine hK _ ?_;clear hK K
      (refine awp_ret (ret1 uRT ?_);try rfl)
     |true=>
      rw[e3] at g3
      refine uR ?_;intro K hK
      refine uH ?_
      refine callF uTS (g0) uTS uTS uTS ?_;refine uS ?_
      try refine uS ?_
      refine uH ?_
      refine callF uTS (g1) uTS uTS uTS ?_;refine uS ?_
      try refine uS ?_
      refine uH ?_
      refine callF uTS (g2) uTS uTS uTS ?_;refine uS ?_
      try refine uS ?_
      refine uH ?_
      refine callF uTS (g3) uTS uTS uTS ?_;refine uS ?_
      try refine uS ?_
      refine uH ?_
      refine hK _ ?_;clear hK K
      (refine awp_ret (ret1 uRT ?_);try rfl)
theorem plain_5 (x:Acx) (hk:1<=x.k/\x.k<=14) (h1:x.mv.length<=1000000) (h2:x.gl.length<=1000000) (ho:x=only x) (h3:(only x).mv.length<=1000000) (h4:(only x).gl.length<=1000000) (hq:x.k=5) (h5:x.rev.flt.car.length<=1000000) (h6:x.rev.flt.suf.length<=1000000):SatG Tryz.prog tab 37 [] [x.av] [] (B (revB x.rev)):=by
 have k1:=uDf (x.k<1)
 have k2:=uDf (14<x.k)
 have g1:=only_sat x
 have g2:=rsame_sat x (only x) h1 h3 h2 h4
 have e1:=uDf (x.k=1)
 have e3:=uDf (x.k=3)
 have e5:=uDt (x.k=5)
 have e2:=uDf (x.k=2)
 have e10:=uDf (x.k=10)
 have e8:=uDf (x.k=8)
 have e9:=uDf (x.k=9)
 have e13:=uDf (x.k=13)
 rw[decide_eq_true ho] at g2
 refine uFN Tryz.func37 Tryz.ntmps37 ?_;intro w e X hC
 refine uA ?_
 refine uD1 (uI @k1 @k2) ?_;intro K hK
 refine uH ?_
 refine callP uTS (g1) uTS uTS uTS ?_;refine uS ?_
 refine uH ?_
 refine callF uTS (g2) uTS uTS uTS ?_;refine uS ?_
 refine uH ?_
 refine hK _ ?_;clear hK K
 refine uF ?_
 repeat first|refine uC ?_|refine uA1 (uI @e1 (uI @e3 (uI @e5 (uI @e2 (uI @e10 (uI @e8 (uI @e9 @e13))))))) ?_
 clear g1 g2
 have g2:=rfvalid_sat x.rev.flt h5 h6
 cases e0:decide (x.rev.k<1) with
 |true=>
  refine uR1 @e0 ?_;intro K hK
  refine uH ?_
  refine hK _ ?_;clear hK K
  refine uT ?_
  rw[revB_n0 e0]
  repeat refine uA ?_
  (refine awp_ret (ret1 uRT ?_);try rfl)
 |false=>
  cases e1:decide (5<x.rev.k) with
  |true=>
   refine uR1 (uI @e0 @e1) ?_;intro K hK
   refine uH ?_
   refine hK _ ?_;clear hK K
   refine uT ?_
   rw[revB_n1 e1]
   repeat refine uA ?_
   (refine awp_ret (ret1 uRT ?_);try rfl)
  |false=>
   cases e2:x.rev.flt.ok with
   |false=>
    rw[e2] at g2
    refine uR1 (uI @e0 @e1) ?_;intro K hK
    refine uH ?_
    refine callF uTS (g2) uTS uTS uTS ?_;refine uS ?_
    try refine uS1 (uI @e0 @e1) ?_
    refine uH ?_
    refine hK _ ?_;clear hK K
    refine uT ?_
    rw[revB_n2 e2]
    repeat refine uA ?_
    (refine awp_ret (ret1 uRT ?_);try rfl)
   |true=>
    rw[e2] at g2
    refine uR1 (uI @e0 @e1) ?_;intro K hK
    refine uH ?_
    refine callF uTS (g2) uTS uTS uTS ?_;refine uS ?_
    try refine uS1 (uI @e0 @e1) ?_
    refine uH ?_
    refine hK _ ?_;clear hK K
    refine uF ?_
    rw[revB_yes e0 e1 e2]
    clear g2
    have g0:SatG Tryz.prog tab 70 [] [I x.rev.amt] [] (B (numB x.rev.amt)):=num_sat _
    cases f0:numB x.rev.amt with
    |false=>
     rw[f0] at g0
     refine uR ?_;intro K hK
     refine uH ?_
     refine callF uTS (g0) uTS uTS uTS ?_;refine uS ?_
     refine uH ?_
     refine hK _ ?_;clear hK K
     (refine awp_ret (ret1 uRT ?_);try rfl)
    |true=>
     rw[f0] at g0
     cases f1:decide (x.rev.k<=3) with
     |true=>
      refine uR1 @f1 ?_;intro K hK
      refine uH ?_
      refine callF uTS (g0) uTS uTS uTS ?_;refine uS ?_
      try refine uS1 @f1 ?_
      refine uH ?_
      refine hK _ ?_;clear hK K
      (refine awp_ret (ret1 uRT ?_);try rfl)
     |false=>
      refine uR1 @f1 ?_;intro K hK
      refine uH ?_
      refine callF uTS (g0) uTS uTS uTS ?_;refine uS ?_
      try refine uS1 @f1 ?_
      refine uH ?_
      refine hK _ ?_;clear hK K
      (refine awp_ret (ret1 uRT ?_);try rfl)
theorem only_mv (x:Acx):(only x).mv.length<=x.mv.length:=by
 unfold only
 split
 ·exact Nat.le_refl _
 ·repeat' split
  all_goals exact Nat.zero_le _
theorem only_gl (x:Acx):(only x).gl.length<=x.gl.length:=by
 unfold only
 split
 ·exact Nat.le_refl _
 ·repeat' split
  all_goals exact Nat.zero_le _
theorem plain_sat (x:Acx) (hx:SmA x):SatG Tryz.prog tab 37 [] [x.av] [] (B (plainA x)):=by
 have h1:x.mv.length<=1000000:=by have:=hx.mv;omega
 have h2:x.gl.length<=1000000:=by have:=hx.gl;omega
 have h3:(only x).mv.length<=1000000:=by have:=only_mv x;omega
 have h4:(only x).gl.length<=1000000:=by have:=only_gl x;omega
 by_cases k1:x.k<1
 ·rw[show plainA x=false by unfold plainA;rw[decide_eq_false (by omega)];rfl]
  exact plain_lo x k1
 by_cases k2:14<x.k
 ·rw[show plainA x=false by unfold plainA;rw[decide_eq_false (by omega)];rfl]
  exact plain_hi x k2
 have hk:1<=x.k/\x.k<=14:=by omega
 by_cases ho:x=only x
 ·rw[show plainA x=bodyB x by unfold plainA;rw[decide_eq_true hk,decide_eq_true ho];rfl]
  unfold bodyB
  by_cases q1:x.k=1
  ·rw[if_pos q1];exact plain_1 x hk h1 h2 ho h3 h4 q1
  rw[if_neg q1]
  by_cases q3:x.k=3
  ·rw[if_pos q3];exact plain_3 x hk h1 h2 ho h3 h4 q3 hx.tx
  rw[if_neg q3]
  by_cases q5:x.k=5
  ·rw[if_pos q5];exact plain_5 x hk h1 h2 ho h3 h4 q5 hx.rc hx.rs
  rw[if_neg q5]
  by_cases q13:x.k=13
  ·rw[if_pos q13];exact plain_13 x hk h1 h2 ho h3 h4 q13 hx.fc hx.fs
  rw[if_neg q13]
  by_cases q2:x.k=2
  ·rw[if_pos (by omega)];exact plain_2 x hk h1 h2 ho h3 h4 q2
  by_cases q10:x.k=10
  ·rw[if_pos (by omega)];exact plain_10 x hk h1 h2 ho h3 h4 q10
  by_cases q8:x.k=8
  ·rw[if_pos (by omega)];exact plain_8 x hk h1 h2 ho h3 h4 q8
  by_cases q9:x.k=9
  ·rw[if_pos (by omega)];exact plain_9 x hk h1 h2 ho h3 h4 q9
  rw[if_neg (by omega)]
  exact plain_0 x hk h1 h2 ho h3 h4 ⟨q1,q3,q5,q2,q10,q8,q9,q13⟩
 ·rw[show plainA x=false by unfold plainA;rw[decide_eq_false ho,Bool.false_and,Bool.and_false]]
  exact plain_sp x hk h1 h2 ho h3 h4
open Go.Scr
theorem SmQ.a {x:Acx} (h:SmQ x):SmA x:=⟨by have:=h.mv;omega,by have:=h.gl;omega,by have:=h.tx;omega,by have:=h.rc;omega,by have:=h.rs;omega,by have:=h.fc;omega,by have:=h.fs;omega⟩
open Go.Scr
theorem rvalue_sat (s:Bs) (hs:s.length<=10) (hd:s.all digit=true):SatG Tryz.prog tab 123 [] [S (strOf s)] [] (I (numL 0 s:Nat)):=by
 refine uFN Tryz.func123 Tryz.ntmps123 ?_;intro w e X hC
 repeat refine uA ?_
 refine uW ?_
 refine awp_loopW (fun i:Nat×Nat=>⟨[(0,S (strOf s)),(3,I (numL 0 (s.take i.2):Nat)),(4,I i.2)],[],i.1⟩) (fun i=>i.2<=s.length) (fun i=>s.length - i.2) (_,0) (Nat.zero_le _) (uKF) ?_
 rintro⟨ck,i⟩ hi
 simp only at hi
 have hn:=numL_take hd hi
 have hn:numL 0 (s.take i)<10000000000:=Nat.lt_of_lt_of_le hn (Nat.pow_le_pow_right (by decide) (by omega:i<=10))
 repeat refine uA ?_
 refine uW ?_;refine condP _ rfl (fun h=>?_) (fun h=>?_)
 ·have hlt:i<s.length:=by omega
  have hdg:48<=(s.getD i 0).toNat/\(s.getD i 0).toNat<=57:=of_decide_eq_true (all_getD hd hlt)
  have e1:=take_snoc hlt
  have e2:=numL_snoc 0 (s.take i) (s.getD i 0)
  rw[<-e1] at e2
  have hw:=wrap_dig (all_getD hd hlt)
  have e3:((numL 0 (s.take (i+1)):Nat):Int)=(numL 0 (s.take i):Nat)*10+(((s.getD i 0).toNat:Int) - 48):=by omega
  repeat refine uA1 @hw ?_
  refine⟨(_,i+1),by simp only;omega,by simp only;omega, .of (Nat.le_refl _) uHF (uWF1 @e3)⟩
 ·refine awp_exit ?_
  have:i=s.length:=by omega
  subst this
  rw[List.take_length]
  repeat refine uA ?_
  (refine awp_ret (ret1 uRT ?_);try rfl)
theorem rall_sat (s:Bs) (hs:s.length<=1000000):SatG Tryz.prog tab 122 [] [S (strOf s)] [] (B (s.all digit)):=by
 refine uFN Tryz.func122 Tryz.ntmps122 ?_;intro w e X hC
 repeat refine uA ?_
 refine uW ?_
 refine awp_loopW (fun i:Nat×Nat=>⟨[(0,S (strOf s)),(3,I i.2)],[],i.1⟩) (fun i=>i.2<=s.length/\(s.take i.2).all digit=true) (fun i=>s.length - i.2) (_,0) ⟨Nat.zero_le _,rfl⟩ (uKF) ?_
 rintro⟨ck,i⟩ ⟨hi,hj⟩
 simp only at hi hj
 refine uA ?_
 refine uW ?_;refine condP _ rfl (fun h=>?_) (fun h=>?_)
 ·have hlt:i<s.length:=by omega
  have hno:digit (s.getD i 0)=false->B (s.all digit)=B false:=fun h=>by rw[not_all hlt h]
  by_cases c0:(s.getD i 0).toNat<48
  ·have e0:=uDt ((((s.getD i 0).toNat:Nat):Int)<48)
   rw[hno (decide_eq_false (by omega))]
   repeat refine uA1 @e0 ?_
   refine uT ?_
   repeat refine uA ?_
   (refine awp_ret (ret1 uRT ?_);try rfl)
  ·have e0:=uDf ((((s.getD i 0).toNat:Nat):Int)<48)
   by_cases c1:57<(s.getD i 0).toNat
   ·have e1:=uDt (57<(((s.getD i 0).toNat:Nat):Int))
    rw[hno (decide_eq_false (by omega))]
    repeat refine uA1 (uI @e0 @e1) ?_
    refine uT ?_
    repeat refine uA ?_
    (refine awp_ret (ret1 uRT ?_);try rfl)
   ·have e1:=uDf (57<(((s.getD i 0).toNat:Nat):Int))
    repeat refine uA1 (uI @e0 @e1) ?_
    refine uF ?_
    repeat refine uA ?_
    refine⟨(_,i+1),⟨by simp only;omega,take_all hlt hj (decide_eq_true ⟨by omega,by omega⟩)⟩,by simp only;omega,uKF⟩
 ·refine awp_exit ?_
  have:i=s.length:=by omega
  subst this
  rw[List.take_length] at hj
  rw[hj]
  repeat refine uA ?_
  (refine awp_ret (ret1 uRT ?_);try rfl)
theorem zero_bytsD (k n:Nat):byts (List.replicate k 0++digs n 0)=List.replicate k (.lit (.int .u8 0)):=by
 simp[digs,byts,byteE]
theorem dig_wrap2 (n:Nat):IntKind.u8.wrap (48+(n:Int).tmod 10)=((UInt8.ofNat (48+n % 10)).toNat:Nat):=by
 have h1:(n:Int).tmod 10=((n % 10:Nat):Int):=by rw[Int.tmod_eq_emod_of_nonneg (by omega)];rfl
 rw[h1,dig_toNat (by omega),IntKind.wrap_u8]
 omega
theorem byts_stepD (N k i:Nat) (h:i<k):(byts (List.replicate (k - i) 0++digs N i)).set (k - 1 - i) (.lit (.int .u8 ((UInt8.ofNat (48+N / 10^i % 10)).toNat:Nat)))=byts (List.replicate (k - (i+1)) 0++digs N (i+1)):=by
 rw[digs_head,show k - (i+1)=k - 1 - i by omega,show k - i=(k - 1 - i)+1 by omega,List.replicate_succ']
 simp only[byts,List.map_append,List.append_assoc]
 generalize hA:List.map byteE (List.replicate (k - 1 - i) 0)=A
 have hAl:A.length=k - 1 - i:=by rw[<-hA];simp
 rw[List.set_append_right _ _ (by omega),hAl,Nat.sub_self]
 rfl
theorem rdigits_sat (N k:Nat) (hN:N<10^12) (hk:k<=12) (hk0:1<=k):SatG Tryz.prog tab 72 [] [I N,I k] [] (S (strOf (digs N k))):=by
 have hN:N<1000000000000:=hN
 refine uFN Tryz.func72 Tryz.ntmps72 ?_;intro w e X hC
 repeat refine uA ?_
 refine uW ?_
 refine awp_loopW (fun i:Nat×Nat=>⟨[(0,I (N / 10^i.2:Nat)),(5, .slO 108 3 0 k),(6,I ((k:Int) - 1 - i.2))],[(108,some (3, .own 5 1 (byts (List.replicate (k - i.2) 0++digs N i.2))))],i.1⟩) (fun i=>i.2<=k) (fun i=>k - i.2) (_,0) (Nat.zero_le _) (.of (Nat.le_refl _) (uHF1 (uI @zero_bytsD @Nat.sub_zero)) (uWF1 (uI @Nat.pow_zero (uI @Nat.div_one (uI @Int.natCast_zero @Int.sub_zero))))) ?_
 rintro⟨ck,i⟩ hi
 simp only at hi
 have hl:k - i+(digs N i).length=k:=by rw[digs_length];omega
 repeat refine uA ?_
 refine uW ?_;refine condP _ rfl (fun h=>?_) (fun h=>?_)
 ·have hlt:i<k:=by omega
  have hw:=dig_wrap2 (N / 10^i)
  have hx:((k:Int) - 1 - i).toNat=k - 1 - i:=by omega
  have hs:=byts_stepD N k i hlt
  have hq:((N / 10^i:Nat):Int).tdiv 10=((N / 10^(i+1):Nat):Int):=by
   rw[Int.tdiv_eq_ediv_of_nonneg (Int.natCast_nonneg _),Nat.pow_succ,<-Nat.div_div_eq_div_mul];rfl
  have hb2:N / 10^i<=N:=Nat.div_le_self _ _
  have hmd:0<=((N / 10^i:Nat):Int).tmod 10/\((N / 10^i:Nat):Int).tmod 10<10:=by rw[Int.tmod_eq_emod_of_nonneg (Int.natCast_nonneg _)];omega
  refine uR1 (uI @hw (uI @hx (uI @hl @hs))) ?_;intro K hK
  refine⟨by omega,by omega,by omega,?_⟩
  refine hK _ ?_;clear hK K
  have hq2:IntKind.i64.wrap ((N / 10^(i+1):Nat):Int)=((N / 10^(i+1):Nat):Int):=by
   have:N / 10^(i+1)<=N:=Nat.div_le_self _ _
   generalize N / 10^(i+1)=q at*
   rw[IntKind.wrap_i64];omega
  have hi1:(k:Int) - 1 - i - 1=(k:Int) - 1 - (i+1:Nat):=by omega
  repeat refine uA1 (uI @hq (uI @hq2 @hi1)) ?_
  refine⟨(_,i+1),by simp only;omega,by simp only;omega,uKF⟩
 ·refine awp_exit ?_
  have:i=k:=by omega
  subst this
  have e2:List.replicate (i - i) (0:UInt8)++digs N i=digs N i:=by rw[Nat.sub_self];rfl
  rw[e2]
  repeat refine uA ?_
  (refine awp_ret (ret1 uRT ?_);try rfl)
theorem rnum_of {p:Plt} (h:p.ok=true):∃N:Nat,p.num=N/\N<10000000000:=by
 have hb:=pltnum_ok h
 exact⟨p.num.toNat,by unfold Plt.num;omega,by unfold Plt.num;omega⟩
theorem rpformat_sat (p:Plt):SatG Tryz.prog tab 38 [] [Plt.av p] [] (S (strOf p.fmt)):=by
 have h0:=rvalid_sat p
 refine uFN Tryz.func38 Tryz.ntmps38 ?_;intro w e X hC
 repeat refine uA ?_
 cases c0:p.ok with
 |false=>
  have e:p.fmt=[]:=by unfold Plt.fmt;rw[c0];rfl
  rw[c0] at h0
  rw[e]
  refine uR ?_;intro K hK
  refine uH ?_
  refine callF uTS (h0) uTS uTS uTS ?_;refine uS ?_
  refine hK _ ?_;clear hK K
  refine uT ?_
  repeat refine uA ?_
  (refine awp_ret (ret1 uRT ?_);try rfl)
 |true=>
  have hb:=pltnum_ok c0
  have e:p.fmt=digs p.num.toNat 10:=by unfold Plt.fmt;rw[c0];rfl
  have h1:=rnumP_sat p.l p.a p.s ⟨hb.1,hb.2.1⟩ (by omega) (by omega)
  obtain⟨N,hN,hN3⟩:=rnum_of c0
  have hN2:(p.l*1000+p.a)*1000000+p.s=N:=hN
  rw[hN2] at h1
  have h2:=rdigits_sat N 10 (by omega) (by decide) (by decide)
  rw[c0] at h0
  rw[e,hN,Int.toNat_natCast]
  refine uR ?_;intro K hK
  refine uH ?_
  refine callF uTS (h0) uTS uTS uTS ?_;refine uS ?_
  refine hK _ ?_;clear hK K
  refine uF ?_
  refine uR ?_;intro K hK
  refine uH ?_
  refine callF uTS (h1) uTS uTS uTS ?_;refine uS ?_
  refine uH ?_
  refine callF uTS (h2) uTS uTS uTS ?_;refine uS ?_
  refine hK _ ?_;clear hK K
  (refine awp_ret (ret1 uRT ?_);try rfl)
theorem rpparse_sat (s:Bs) (hs:s.length<=1000000):SatG Tryz.prog tab 96 [] [S (strOf s)] [] (.tup [Plt.av (pltParse s).1,I (pltParse s).2]):=by
 have hbad:¬(s.length=10/\s.all digit=true)->pltParse s=(P0,3):=fun h=>by unfold pltParse;rw[if_neg h]
 have g0:=rall_sat s hs
 refine uFN Tryz.func96 Tryz.ntmps96 ?_;intro w e X hC
 repeat refine uA ?_
 by_cases c0:s.length=10
 ·have e0:(decide ¬(s.length:Int)=10)=false:=decide_eq_false (by omega)
  cases hj:s.all digit with
  |false=>
   rw[hj] at g0
   rw[hbad (fun h=>by rw[hj] at h;exact absurd h.2 (by decide))]
   refine uR1 @e0 ?_;intro K hK
   refine uH ?_
   refine callF uTS (g0) uTS uTS uTS ?_;refine uS ?_
   try refine uS1 @e0 ?_
   refine uH ?_
   refine hK _ ?_;clear hK K
   refine uT ?_
   repeat refine uA ?_
   refine awp_ret ?_;rw[show Tryz.f96.results.toList=[.cell 2 24, .tmp 3] from rfl];first|refine uRN ?_|exact uRM
   rfl
  |true=>
   rw[hj] at g0
   have h1:=rvalue_sat (s.take 1) (by rw[List.length_take];omega) (all_take hj 1)
   have h2:=rvalue_sat ((s.take 4).drop 1) (by rw[List.length_drop,List.length_take];omega) (all_part hj 1 4)
   have h3:=rvalue_sat (s.drop 4) (by rw[List.length_drop];omega) (all_drop hj 4)
   have h4:=rvalid_sat (pltOf s)
   have hgood:pltParse s=if(pltOf s).ok then(pltOf s,0) else(P0,1):=by unfold pltParse;rw[if_pos ⟨c0,hj⟩]
   rw[hgood]
   refine uR1 @e0 ?_;intro K hK
   refine uH ?_
   refine callF uTS (g0) uTS uTS uTS ?_;refine uS ?_
   try refine uS1 @e0 ?_
   refine uH ?_
   refine hK _ ?_;clear hK K
   refine uF ?_
   refine uD ?_;intro K hK
   refine uH ?_
   refine callF uTS (h1) uTS uTS uTS ?_;refine uS ?_
   refine uH ?_
   refine callF uTS (h2) uTS uTS uTS ?_;refine uS ?_
   refine uH ?_
   refine callF uTS (h3) uTS uTS uTS ?_;refine uS ?_
   refine uH ?_
   refine hK _ ?_;clear hK K
   cases c3:(pltOf s).ok with
   |true=>
    rw[c3] at h4
    refine uR ?_;intro K hK
    refine uH ?_
    refine callF uTS (h4) uTS uTS uTS ?_;refine uS ?_
    refine hK _ ?_;clear hK K
    refine uF ?_
    repeat refine uA ?_
    refine awp_ret ?_;rw[show Tryz.f96.results.toList=[.cell 2 24, .tmp 3] from rfl];first|refine uRN ?_|exact uRM
    rfl
   |false=>
    rw[c3] at h4
    refine uR ?_;intro K hK
    refine uH ?_
    refine callF uTS (h4) uTS uTS uTS ?_;refine uS ?_
    refine hK _ ?_;clear hK K
    refine uT ?_
    repeat refine uA ?_
    refine awp_ret ?_;rw[show Tryz.f96.results.toList=[.cell 2 24, .tmp 3] from rfl];first|refine uRN ?_|exact uRM
    rfl
 ·have e0:(decide ¬(s.length:Int)=10)=true:=decide_eq_true (by omega)
  rw[hbad (fun h=>c0 h.1)]
  repeat refine uA1 @e0 ?_
  refine uT ?_
  repeat refine uA ?_
  refine awp_ret ?_;rw[show Tryz.f96.results.toList=[.cell 2 24, .tmp 3] from rfl];first|refine uRN ?_|exact uRM
  rfl
open Go.Scr
def tenS:Bs:=[48,49,50,51,52,53,54,55,56,57]
theorem tenS_cut (d:Nat) (h:d<10):(tenS.take (d+1)).drop d=[UInt8.ofNat (48+d)]:=by
 have:d=0\/d=1\/d=2\/d=3\/d=4\/d=5\/d=6\/d=7\/d=8\/d=9:=by omega
 rcases this with rfl|rfl|rfl|rfl|rfl|rfl|rfl|rfl|rfl|rfl<;>rfl
theorem decimal_nat:∀(k n:Nat),n<10^(k+1)->k<=6->SatG Tryz.prog tab 40 [] [I n] [] (S (strOf (Lib.decDigits n)))
 |k,n,hn,hk=>by
  have hb:n<10^7:=Nat.lt_of_lt_of_le hn (Nat.pow_le_pow_right (by decide) (by omega))
  have d0:=uDf ((n:Int)<0)
  by_cases h:n<10
  ·have e:Lib.decDigits n=[UInt8.ofNat (48+n)]:=by rw[Lib.decDigits,dif_pos h]
   have hc:=tenS_cut n h
   have d1:=uDt ((n:Int)<10)
   have hc:(48::[49,50,51,52,53,54,55,56,57].take n).drop n=[UInt8.ofNat (48+n)]:=hc
   have e5:((n:Int)+1).toNat=n+1:=by omega
   rw[e]
   refine uFN Tryz.func40 Tryz.ntmps40 ?_;intro w e X hC
   repeat refine uA1 @d0 ?_
   refine uF ?_
   repeat refine uA1 @d1 ?_
   refine uT ?_
   repeat refine uA1 (uI @e5 @hc) ?_
   (refine awp_ret (ret1 uRT ?_);try rfl)
  ·cases k with
   |zero=>exact absurd hn (by omega)
   |succ k=>
    have ih:=decimal_nat k (n / 10) (by rw[Nat.pow_succ] at hn;omega) (by omega)
    have e:Lib.decDigits n=Lib.decDigits (n / 10)++[UInt8.ofNat (48+n % 10)]:=by rw[Lib.decDigits,dif_neg h]
    have hc:=tenS_cut (n % 10) (by omega)
    have d1:=uDf ((n:Int)<10)
    have hc:(48::[49,50,51,52,53,54,55,56,57].take (n % 10)).drop (n % 10)=[UInt8.ofNat (48+n % 10)]:=hc
    have m1:(n:Int).tmod 10=((n % 10:Nat):Int):=by rw[Int.tmod_eq_emod_of_nonneg (by omega)];rfl
    have m2:(n:Int).tdiv 10=((n / 10:Nat):Int):=by rw[Int.tdiv_eq_ediv_of_nonneg (by omega)];rfl
    have m3:IntKind.i64.wrap ((n / 10:Nat):Int)=((n / 10:Nat):Int):=by rw[IntKind.wrap_i64];omega
    have m4:IntKind.i64.wrap ((n % 10:Nat):Int)=((n % 10:Nat):Int):=by rw[IntKind.wrap_i64];omega
    have e5:(((n % 10:Nat):Int)+1).toNat=n % 10+1:=by omega
    have hdl:(Lib.decDigits (n / 10)).length<=7:=dec_len (k:=6) (by omega)
    rw[e]
    refine uFN Tryz.func40 Tryz.ntmps40 ?_;intro w e X hC
    repeat refine uA1 @d0 ?_
    refine uF ?_
    repeat refine uA1 @d1 ?_
    refine uF ?_
    refine uD1 (uI @m1 (uI @m2 (uI @m3 (uI @m4 (uI @e5 @hc))))) ?_;intro K hK
    refine uH ?_
    refine callF uTS (ih) uTS uTS uTS ?_;refine uS ?_
    try refine uS1 (uI @m1 (uI @m4 (uI @e5 @hc))) ?_
    refine uH ?_
    refine hK _ ?_;clear hK K
    (refine awp_ret (ret1 uRT ?_);try rfl)
theorem swap_step {a b:UInt8} {s:Bs} {i:Nat} (hi:i<s.length):(swapB a b (s.take i)++s.drop i).set i (if s.getD i 0=a then b else s.getD i 0)=swapB a b (s.take (i+1))++s.drop (i+1):=by
 rw[List.set_append_right _ _ (by rw[swapB_length,List.length_take];omega),swapB_length,List.length_take,Nat.min_eq_left (by omega),Nat.sub_self,List.drop_eq_getElem_cons hi,List.set_cons_zero,take_snoc hi]
 simp[swapB]
theorem swap_stepT {b:UInt8} {s:Bs} {a:UInt8} {i:Nat} (hi:i<s.length) (h:s.getD i 0=a):(byts (swapB a b (s.take i)++s.drop i)).set i (Uc b)=byts (swapB a b (s.take (i+1))++s.drop (i+1)):=by
 have:=swap_step (a:=a) (b:=b) hi
 rw[if_pos h] at this
 rw[<-this]
 simp[byts,List.map_set,byteE]
theorem swap_stepF {b:UInt8} {s:Bs} {a:UInt8} {i:Nat} (hi:i<s.length) (h:¬s.getD i 0=a):swapB a b (s.take i)++s.drop i=swapB a b (s.take (i+1))++s.drop (i+1):=by
 rw[<-swap_step hi,if_neg h]
 apply List.ext_getElem?
 intro j
 rw[List.getElem?_set]
 split
 ·rename_i hj;subst hj
  have hx:=hi
  rw[if_pos (by simp[swapB];omega),List.getElem?_append_right (by rw[swapB_length,List.length_take];omega),swapB_length,List.length_take,Nat.min_eq_left (by omega),Nat.sub_self,List.getElem?_drop,Nat.add_zero,List.getD_eq_getElem?_getD,List.getElem?_eq_getElem hi]
  rfl
 ·rfl
theorem u8_eq (a c:UInt8):decide (((a.toNat:Nat):Int)=((c.toNat:Nat):Int))=decide (a=c):=by
 refine decide_eq_decide.2 ⟨fun h=>UInt8.toNat_inj.1 (by omega),fun h=>by rw[h]⟩
theorem swap_at {a b:UInt8} {s:Bs} {i:Nat} (hi:i<s.length):(swapB a b (s.take i)++s.drop i).getD i 0=s.getD i 0:=by
 rw[List.getD_eq_getElem?_getD,List.getElem?_append_right (by rw[swapB_length,List.length_take];omega),swapB_length,List.length_take,Nat.min_eq_left (by omega),Nat.sub_self,List.getElem?_drop,Nat.add_zero,<-List.getD_eq_getElem?_getD]
theorem rbars_sat (s:Bs) (a b:UInt8) (hl:s.length<=1000000):SatG Tryz.prog tab 41 [] [S (strOf s),Uc a,Uc b] [] (S (strOf (swapB a b s))):=by
 refine uFN Tryz.func41 Tryz.ntmps41 ?_;intro w e X hC
 repeat refine uA ?_
 refine uW ?_
 refine awp_loopW (fun i:Nat×Nat=>⟨[(1,Uc a),(2,Uc b),(7, .slO 110 3 0 s.length),(12,I s.length),(13,I i.2)],[(110,some (3, .own 5 1 (byts (swapB a b (s.take i.2)++s.drop i.2))))],i.1⟩) (fun i=>i.2<=s.length) (fun i=>s.length - i.2) (_,0) (Nat.zero_le _) (uKF) ?_
 rintro⟨ck,i⟩ hi
 simp only at hi
 have hll:(swapB a b (s.take i)).length+(s.drop i).length=s.length:=by rw[swapB_length,List.length_take,List.length_drop];omega
 repeat refine uA ?_
 refine uW ?_;refine condP _ rfl (fun h=>?_) (fun h=>?_)
 ·have hlt:i<s.length:=by omega
  have hgd:(byts (swapB a b (s.take i)++s.drop i)).getD i .bad=Uc (s.getD i 0):=by
   rw[byts_getD (by rw[List.length_append];omega),swap_at hlt]
  have hu:=u8_eq (s.getD i 0) a
  by_cases c0:s.getD i 0=a
  ·rw[decide_eq_true c0] at hu
   have hst:=swap_stepT (b:=b) hlt c0
   refine uA ?_
   refine uR1 (uI @hgd (uI @hu @hll)) ?_;intro K hK
   refine uH ?_
   refine hK _ ?_;clear hK K
   refine uT ?_
   repeat refine uA1 (uI @hll @hst) ?_
   refine⟨(_,i+1),by simp only;omega,by simp only;omega,uKF⟩
  ·rw[decide_eq_false c0] at hu
   have hst:=swap_stepF (b:=b) hlt c0
   refine uA ?_
   refine uR1 (uI @hgd (uI @hu @hll)) ?_;intro K hK
   refine uH ?_
   refine hK _ ?_;clear hK K
   refine uF ?_
   repeat refine uA ?_
   rw[hst]
   refine⟨(_,i+1),by simp only;omega,by simp only;omega,uKF⟩
 ·refine awp_exit ?_
  have:i=s.length:=by omega
  subst this
  have e2:swapB a b (s.take s.length)++s.drop s.length=swapB a b s:=by rw[List.take_length,List.drop_length,List.append_nil]
  rw[e2]
  repeat refine uA1 @swapB_length ?_
  (refine awp_ret (ret1 uRT ?_);try rfl)
open Go Go.Sym Go.Scr Go.Lib
def rval (s:Bs):Int:=if s≠[]/\s.length<=6/\s.all digit=true/\¬(s.getD 0 0=48/\1<s.length) then(numL 0 s:Nat) else -1
def rfault (s:Bs):Flaw:=
 if(splitL 58 s).length=3/\kindOf ((splitL 58 s).getD 0 [])≠0 then⟨kindOf ((splitL 58 s).getD 0 []),rval ((splitL 58 s).getD 1 []),rval ((splitL 58 s).getD 2 [])⟩ else W0
def lowF (l:List Flaw):List Flaw:=l.filter fun f=>decide (f.k<=2)
def highF (l:List Flaw):List Flaw:=l.filter fun f=>!decide (f.k<=2)
def gTick (ws:List Bs):Acx:=
 if ws.head?=some sLost then {A0 1 with lost:=true,mv:=lowF (ws.tail.map rfault),gl:=highF (ws.tail.map rfault)}
 else {A0 1 with mv:=lowF (ws.map rfault),gl:=highF (ws.map rfault)}
def wordN (s:Bs):Nat:=
 if s=sTick then 1
 else if s=sInduct then 2
 else if s=sMessage then 3
 else if s=sVerdict then 4
 else if s=(revN 1) then 5
 else if s=(revN 2) then 6
 else if s=(revN 3) then 7
 else if s=(revN 4) then 8
 else if s=(revN 5) then 9
 else if s=sBreak then 10
 else if s=sRepair then 11
 else if s=sLoad then 12
 else if s=sUnload then 13
 else if s=sPick then 14
 else if s=sOffline then 15
 else if s=sOnline then 16
 else if s=sDepart then 17
 else if s=sCrash then 18
 else 0
def guessW (s:Bs) (w:List Bs):Acx:=
 match wordN (w.getD 0 []) with
 |1=>gTick (w.drop 1)
 |2=>{A0 2 with plt:=(pltParse (w.getD 1 [])).1,node:=rval (w.getD 2 [])}
 |3=>{A0 3 with txt:=swapB 124 10 (s.drop (min s.length 8))}
 |4=>{A0 4 with img:=rval (w.getD 1 []),clr:=decide (w.getD 2 []=sClear)}
 |5=>{A0 5 with rev:=⟨1,rval (w.getD 2 []),(fltParse (w.getD 1 [])).1⟩}
 |6=>{A0 5 with rev:=⟨2,rval (w.getD 2 []),(fltParse (w.getD 1 [])).1⟩}
 |7=>{A0 5 with rev:=⟨3,rval (w.getD 2 []),(fltParse (w.getD 1 [])).1⟩}
 |8=>{A0 5 with rev:=⟨4,0,(fltParse (w.getD 1 [])).1⟩}
 |9=>{A0 5 with rev:=⟨5,0,(fltParse (w.getD 1 [])).1⟩}
 |10=>{A0 6 with node:=rval (w.getD 1 [])}
 |11=>{A0 7 with node:=rval (w.getD 1 [])}
 |12=>{A0 8 with dev:=rval (w.getD 1 []),plt:=(pltParse (w.getD 2 [])).1,node:=rval (w.getD 3 []),con:=rval (w.getD 4 [])}
 |13=>{A0 9 with dev:=rval (w.getD 1 []),plt:=(pltParse (w.getD 2 [])).1,con:=rval (w.getD 3 [])}
 |14=>{A0 10 with plt:=(pltParse (w.getD 1 [])).1,node:=rval (w.getD 2 [])}
 |15=>{A0 11 with dev:=rval (w.getD 1 [])}
 |16=>{A0 12 with dev:=rval (w.getD 1 [])}
 |17=>{A0 13 with flt:=(fltParse (w.getD 1 [])).1}
 |18=>A0 14
 |_=>A0 0
def guessS (s:Bs):Acx:=guessW s (splitL 32 s)
def rparseS (s:Bs):Option Acx:=if lineS (guessS s)=some s then some (guessS s) else none
theorem rval_dec {n:Int} (h:numB n=true):rval (decW n)=n:=by
 have hn:0<=n/\n<=999999:=of_decide_eq_true h
 have e:decW n=decDigits n.toNat:=by unfold decW;rw[if_pos h]
 rw[e]
 have hl:(decDigits n.toNat).length<=6:=dec_len (k:=5) (by omega)
 have hd:(decDigits n.toNat).all digit=true:=List.all_eq_true.2 fun c hc=>dec_digit _ c hc
 have hc:¬((decDigits n.toNat).getD 0 0=48/\1<(decDigits n.toNat).length):=by
  rintro⟨h1,h2⟩
  by_cases h0:n.toNat=0
  ·rw[h0] at h2
   exact absurd h2 (by decide+kernel)
  ·have:=dec_head n.toNat h0
   cases hq:decDigits n.toNat with
   |nil=>exact dec_ne _ hq
   |cons a b=>
    rw[hq] at this h1
    simp only[List.getD_cons_zero] at h1
    rw[h1] at this
    exact this rfl
 unfold rval
 rw[if_pos ⟨dec_ne _,hl,hd,hc⟩,dec_num]
 omega
theorem rfault_w {f:Flaw} (h:1<=f.k/\f.k<=6) (h1:numB f.n=true) (h2:numB f.w=true):rfault (wFault f)=f:=by
 unfold rfault
 rw[wFault_split]
 simp only[List.getD_cons_zero,List.getD_cons_succ,List.length_cons,List.length_nil]
 rw[kindOf_fault h,if_pos ⟨by simp,by omega⟩,rval_dec h1,rval_dec h2]
theorem map_rfault:∀{l:List Flaw},(∀f∈l,(1<=f.k/\f.k<=6)/\numB f.n=true/\numB f.w=true)->(l.map wFault).map rfault=l
 |[],_=>rfl
 |f::r,h=>by
  obtain⟨h1,h2,h3⟩:=h f (by simp)
  rw[List.map_cons,List.map_cons,rfault_w h1 h2 h3,map_rfault fun g hg=>h g (List.mem_cons_of_mem _ hg)]
theorem nums_of {x:Acx} (h:numsB x=true):numB x.node=true/\numB x.img=true/\numB x.dev=true/\numB x.con=true:=by
 unfold numsB at h
 simpa using h
theorem line_split {x:Acx} {s:Bs} (h:lineS x=some s) (h3:(32:UInt8)∉swapB 10 124 x.txt) (h0:(wAct ([],false) x).1≠[]):splitL 32 s=(wAct ([],false) x).1:=by
 rw[line_eq h]
 exact splitL_join 32 h0 (Nc.act (.inr rfl) (w:=([],false)) (fun s hs=>by cases hs) x h3)
theorem wordN_1:wordN sTick=1:=by decide
theorem wordN_2:wordN sInduct=2:=by decide
theorem wordN_3:wordN sMessage=3:=by decide
theorem wordN_4:wordN sVerdict=4:=by decide
theorem wordN_5:wordN (revN 1)=5:=by decide
theorem wordN_6:wordN (revN 2)=6:=by decide
theorem wordN_7:wordN (revN 3)=7:=by decide
theorem wordN_8:wordN (revN 4)=8:=by decide
theorem wordN_9:wordN (revN 5)=9:=by decide
theorem wordN_10:wordN sBreak=10:=by decide
theorem wordN_11:wordN sRepair=11:=by decide
theorem wordN_12:wordN sLoad=12:=by decide
theorem wordN_13:wordN sUnload=13:=by decide
theorem wordN_14:wordN sPick=14:=by decide
theorem wordN_15:wordN sOffline=15:=by decide
theorem wordN_16:wordN sOnline=16:=by decide
theorem wordN_17:wordN sDepart=17:=by decide
theorem wordN_18:wordN sCrash=18:=by decide
theorem guess_2 {x:Acx} (hk:x.k=2) (ho:x=only x) (hb:bodyB x=true) {s:Bs} (h:lineS x=some s):guessS s=x:=by
 have hx:x=_:=ho
 unfold only at hx
 rw[if_neg (by omega),if_pos (by omega),hk] at hx
 have ht:x.txt=[]:=by rw[hx];rfl
 have hw:(wAct ([],false) x).1=[sInduct,x.plt.fmt,decW x.node]:=by
  unfold wAct
  rw[if_neg (by omega),if_pos hk]
  rfl
 have hs:=line_split h (by rw[ht];decide) (by rw[hw];simp)
 rw[hw] at hs
 unfold bodyB at hb
 rw[if_neg (by omega),if_neg (by omega),if_neg (by omega),if_neg (by omega),if_pos (by omega),Bool.and_eq_true] at hb
 obtain⟨hp,hn⟩:=hb
 obtain⟨n1,n2,n3,n4⟩:=nums_of hn
 unfold guessS guessW
 rw[hs]
 simp only[List.getD_cons_zero,List.getD_cons_succ,wordN_2]
 rw[plt_back hp,rval_dec n1]
 exact hx.symm
theorem guess_4 {x:Acx} (hk:x.k=4) (ho:x=only x) (hb:bodyB x=true) {s:Bs} (h:lineS x=some s):guessS s=x:=by
 have hx:x=_:=ho
 unfold only at hx
 rw[if_neg (by omega),if_neg (by omega),if_neg (by omega),if_pos (by omega),hk] at hx
 have ht:x.txt=[]:=by rw[hx];rfl
 have hw:(wAct ([],false) x).1=[sVerdict,decW x.img,if x.clr then sClear else sAlarm]:=by
  unfold wAct
  rw[if_neg (by omega),if_neg (by omega),if_neg (by omega),if_pos hk]
  rfl
 have hs:=line_split h (by rw[ht];decide) (by rw[hw];simp)
 rw[hw] at hs
 unfold bodyB at hb
 rw[if_neg (by omega),if_neg (by omega),if_neg (by omega),if_neg (by omega),if_neg (by omega)] at hb
 obtain⟨n1,n2,n3,n4⟩:=nums_of hb
 unfold guessS guessW
 rw[hs]
 simp only[List.getD_cons_zero,List.getD_cons_succ,wordN_4]
 rw[rval_dec n2]
 conv=>rhs;rw[hx]
 cases x.clr<;>rfl
theorem guess_6 {x:Acx} (hk:x.k=6) (ho:x=only x) (hb:bodyB x=true) {s:Bs} (h:lineS x=some s):guessS s=x:=by
 have hx:x=_:=ho
 unfold only at hx
 rw[if_neg (by omega),if_neg (by omega),if_neg (by omega),if_neg (by omega),if_neg (by omega),if_pos (by omega),hk] at hx
 have ht:x.txt=[]:=by rw[hx];rfl
 have hw:(wAct ([],false) x).1=[sBreak,decW x.node]:=by
  unfold wAct
  rw[if_neg (by omega),if_neg (by omega),if_neg (by omega),if_neg (by omega),if_neg (by omega),if_pos hk]
  rfl
 have hs:=line_split h (by rw[ht];decide) (by rw[hw];simp)
 rw[hw] at hs
 unfold bodyB at hb
 rw[if_neg (by omega),if_neg (by omega),if_neg (by omega),if_neg (by omega),if_neg (by omega)] at hb
 obtain⟨n1,n2,n3,n4⟩:=nums_of hb
 unfold guessS guessW
 rw[hs]
 simp only[List.getD_cons_zero,List.getD_cons_succ,wordN_10]
 rw[rval_dec n1]
 exact hx.symm
theorem guess_7 {x:Acx} (hk:x.k=7) (ho:x=only x) (hb:bodyB x=true) {s:Bs} (h:lineS x=some s):guessS s=x:=by
 have hx:x=_:=ho
 unfold only at hx
 rw[if_neg (by omega),if_neg (by omega),if_neg (by omega),if_neg (by omega),if_neg (by omega),if_pos (by omega),hk] at hx
 have ht:x.txt=[]:=by rw[hx];rfl
 have hw:(wAct ([],false) x).1=[sRepair,decW x.node]:=by
  unfold wAct
  rw[if_neg (by omega),if_neg (by omega),if_neg (by omega),if_neg (by omega),if_neg (by omega),if_neg (by omega),if_pos hk]
  rfl
 have hs:=line_split h (by rw[ht];decide) (by rw[hw];simp)
 rw[hw] at hs
 unfold bodyB at hb
 rw[if_neg (by omega),if_neg (by omega),if_neg (by omega),if_neg (by omega),if_neg (by omega)] at hb
 obtain⟨n1,n2,n3,n4⟩:=nums_of hb
 unfold guessS guessW
 rw[hs]
 simp only[List.getD_cons_zero,List.getD_cons_succ,wordN_11]
 rw[rval_dec n1]
 exact hx.symm
theorem guess_8 {x:Acx} (hk:x.k=8) (ho:x=only x) (hb:bodyB x=true) {s:Bs} (h:lineS x=some s):guessS s=x:=by
 have hx:x=_:=ho
 unfold only at hx
 rw[if_neg (by omega),if_neg (by omega),if_neg (by omega),if_neg (by omega),if_neg (by omega),if_neg (by omega),if_pos (by omega),hk] at hx
 have ht:x.txt=[]:=by rw[hx];rfl
 have hw:(wAct ([],false) x).1=[sLoad,decW x.dev,x.plt.fmt,decW x.node,decW x.con]:=by
  unfold wAct
  rw[if_neg (by omega),if_neg (by omega),if_neg (by omega),if_neg (by omega),if_neg (by omega),if_neg (by omega),if_neg (by omega),if_pos hk]
  rfl
 have hs:=line_split h (by rw[ht];decide) (by rw[hw];simp)
 rw[hw] at hs
 unfold bodyB at hb
 rw[if_neg (by omega),if_neg (by omega),if_neg (by omega),if_neg (by omega),if_pos (by omega),Bool.and_eq_true] at hb
 obtain⟨hp,hn⟩:=hb
 obtain⟨n1,n2,n3,n4⟩:=nums_of hn
 unfold guessS guessW
 rw[hs]
 simp only[List.getD_cons_zero,List.getD_cons_succ,wordN_12]
 rw[plt_back hp,rval_dec n1,rval_dec n3,rval_dec n4]
 exact hx.symm
theorem guess_9 {x:Acx} (hk:x.k=9) (ho:x=only x) (hb:bodyB x=true) {s:Bs} (h:lineS x=some s):guessS s=x:=by
 have hx:x=_:=ho
 unfold only at hx
 rw[if_neg (by omega),if_neg (by omega),if_neg (by omega),if_neg (by omega),if_neg (by omega),if_neg (by omega),if_neg (by omega),if_pos (by omega),hk] at hx
 have ht:x.txt=[]:=by rw[hx];rfl
 have hw:(wAct ([],false) x).1=[sUnload,decW x.dev,x.plt.fmt,decW x.con]:=by
  unfold wAct
  rw[if_neg (by omega),if_neg (by omega),if_neg (by omega),if_neg (by omega),if_neg (by omega),if_neg (by omega),if_neg (by omega),if_neg (by omega),if_pos hk]
  rfl
 have hs:=line_split h (by rw[ht];decide) (by rw[hw];simp)
 rw[hw] at hs
 unfold bodyB at hb
 rw[if_neg (by omega),if_neg (by omega),if_neg (by omega),if_neg (by omega),if_pos (by omega),Bool.and_eq_true] at hb
 obtain⟨hp,hn⟩:=hb
 obtain⟨n1,n2,n3,n4⟩:=nums_of hn
 unfold guessS guessW
 rw[hs]
 simp only[List.getD_cons_zero,List.getD_cons_succ,wordN_13]
 rw[plt_back hp,rval_dec n3,rval_dec n4]
 exact hx.symm
theorem guess_10 {x:Acx} (hk:x.k=10) (ho:x=only x) (hb:bodyB x=true) {s:Bs} (h:lineS x=some s):guessS s=x:=by
 have hx:x=_:=ho
 unfold only at hx
 rw[if_neg (by omega),if_pos (by omega),hk] at hx
 have ht:x.txt=[]:=by rw[hx];rfl
 have hw:(wAct ([],false) x).1=[sPick,x.plt.fmt,decW x.node]:=by
  unfold wAct
  rw[if_neg (by omega),if_neg (by omega),if_neg (by omega),if_neg (by omega),if_neg (by omega),if_neg (by omega),if_neg (by omega),if_neg (by omega),if_neg (by omega),if_pos hk]
  rfl
 have hs:=line_split h (by rw[ht];decide) (by rw[hw];simp)
 rw[hw] at hs
 unfold bodyB at hb
 rw[if_neg (by omega),if_neg (by omega),if_neg (by omega),if_neg (by omega),if_pos (by omega),Bool.and_eq_true] at hb
 obtain⟨hp,hn⟩:=hb
 obtain⟨n1,n2,n3,n4⟩:=nums_of hn
 unfold guessS guessW
 rw[hs]
 simp only[List.getD_cons_zero,List.getD_cons_succ,wordN_14]
 rw[plt_back hp,rval_dec n1]
 exact hx.symm
theorem guess_11 {x:Acx} (hk:x.k=11) (ho:x=only x) (hb:bodyB x=true) {s:Bs} (h:lineS x=some s):guessS s=x:=by
 have hx:x=_:=ho
 unfold only at hx
 rw[if_neg (by omega),if_neg (by omega),if_neg (by omega),if_neg (by omega),if_neg (by omega),if_neg (by omega),if_neg (by omega),if_neg (by omega),if_pos (by omega),hk] at hx
 have ht:x.txt=[]:=by rw[hx];rfl
 have hw:(wAct ([],false) x).1=[sOffline,decW x.dev]:=by
  unfold wAct
  rw[if_neg (by omega),if_neg (by omega),if_neg (by omega),if_neg (by omega),if_neg (by omega),if_neg (by omega),if_neg (by omega),if_neg (by omega),if_neg (by omega),if_neg (by omega),if_pos hk]
  rfl
 have hs:=line_split h (by rw[ht];decide) (by rw[hw];simp)
 rw[hw] at hs
 unfold bodyB at hb
 rw[if_neg (by omega),if_neg (by omega),if_neg (by omega),if_neg (by omega),if_neg (by omega)] at hb
 obtain⟨n1,n2,n3,n4⟩:=nums_of hb
 unfold guessS guessW
 rw[hs]
 simp only[List.getD_cons_zero,List.getD_cons_succ,wordN_15]
 rw[rval_dec n3]
 exact hx.symm
theorem guess_12 {x:Acx} (hk:x.k=12) (ho:x=only x) (hb:bodyB x=true) {s:Bs} (h:lineS x=some s):guessS s=x:=by
 have hx:x=_:=ho
 unfold only at hx
 rw[if_neg (by omega),if_neg (by omega),if_neg (by omega),if_neg (by omega),if_neg (by omega),if_neg (by omega),if_neg (by omega),if_neg (by omega),if_pos (by omega),hk] at hx
 have ht:x.txt=[]:=by rw[hx];rfl
 have hw:(wAct ([],false) x).1=[sOnline,decW x.dev]:=by
  unfold wAct
  rw[if_neg (by omega),if_neg (by omega),if_neg (by omega),if_neg (by omega),if_neg (by omega),if_neg (by omega),if_neg (by omega),if_neg (by omega),if_neg (by omega),if_neg (by omega),if_neg (by omega),if_pos hk]
  rfl
 have hs:=line_split h (by rw[ht];decide) (by rw[hw];simp)
 rw[hw] at hs
 unfold bodyB at hb
 rw[if_neg (by omega),if_neg (by omega),if_neg (by omega),if_neg (by omega),if_neg (by omega)] at hb
 obtain⟨n1,n2,n3,n4⟩:=nums_of hb
 unfold guessS guessW
 rw[hs]
 simp only[List.getD_cons_zero,List.getD_cons_succ,wordN_16]
 rw[rval_dec n3]
 exact hx.symm
theorem guess_13 {x:Acx} (hk:x.k=13) (ho:x=only x) (hb:bodyB x=true) {s:Bs} (h:lineS x=some s):guessS s=x:=by
 have hx:x=_:=ho
 unfold only at hx
 rw[if_neg (by omega),if_neg (by omega),if_neg (by omega),if_neg (by omega),if_neg (by omega),if_neg (by omega),if_neg (by omega),if_neg (by omega),if_neg (by omega),if_pos (by omega),hk] at hx
 have ht:x.txt=[]:=by rw[hx];rfl
 have hw:(wAct ([],false) x).1=[sDepart,x.flt.fmt]:=by
  unfold wAct
  rw[if_neg (by omega),if_neg (by omega),if_neg (by omega),if_neg (by omega),if_neg (by omega),if_neg (by omega),if_neg (by omega),if_neg (by omega),if_neg (by omega),if_neg (by omega),if_neg (by omega),if_neg (by omega),if_pos hk]
  rfl
 have hs:=line_split h (by rw[ht];decide) (by rw[hw];simp)
 rw[hw] at hs
 unfold bodyB at hb
 rw[if_neg (by omega),if_neg (by omega),if_neg (by omega),if_pos (by omega)] at hb
 unfold guessS guessW
 rw[hs]
 simp only[List.getD_cons_zero,List.getD_cons_succ,wordN_17]
 rw[flt_back hb]
 exact hx.symm
theorem guess_14 {x:Acx} (hk:x.k=14) (ho:x=only x) (hb:bodyB x=true) {s:Bs} (h:lineS x=some s):guessS s=x:=by
 have hx:x=_:=ho
 unfold only at hx
 rw[if_neg (by omega),if_neg (by omega),if_neg (by omega),if_neg (by omega),if_neg (by omega),if_neg (by omega),if_neg (by omega),if_neg (by omega),if_neg (by omega),if_neg (by omega),hk] at hx
 have ht:x.txt=[]:=by rw[hx];rfl
 have hw:(wAct ([],false) x).1=[sCrash]:=by
  unfold wAct
  rw[if_neg (by omega),if_neg (by omega),if_neg (by omega),if_neg (by omega),if_neg (by omega),if_neg (by omega),if_neg (by omega),if_neg (by omega),if_neg (by omega),if_neg (by omega),if_neg (by omega),if_neg (by omega),if_neg (by omega)]
  rfl
 have hs:=line_split h (by rw[ht];decide) (by rw[hw];simp)
 rw[hw] at hs
 unfold bodyB at hb
 rw[if_neg (by omega),if_neg (by omega),if_neg (by omega),if_neg (by omega),if_neg (by omega)] at hb
 obtain⟨n1,n2,n3,n4⟩:=nums_of hb
 unfold guessS guessW
 rw[hs]
 simp only[List.getD_cons_zero,List.getD_cons_succ,wordN_18]
 exact hx.symm
theorem guess_3 {x:Acx} (hk:x.k=3) (ho:x=only x) (hb:bodyB x=true) {s:Bs} (h:lineS x=some s):guessS s=x:=by
 have hx:x=msgA x.txt:=by
  conv=>lhs;rw[ho]
  unfold only
  rw[if_neg (by omega),if_neg (by omega),if_pos (by omega),hk]
  rfl
 have ht:txtB x.txt=true:=by
  unfold bodyB at hb
  rw[if_neg (by omega),if_pos hk] at hb
  exact hb
 have hbar:(124:UInt8)∉x.txt:=fun hm=>by
  unfold txtB at ht
  rw[List.all_eq_true] at ht
  have h1:=of_decide_eq_true (ht 124 hm)
  have h2:(124:UInt8).toNat=124:=rfl
  omega
 have hl:=line_msg ht
 rw[<-hx,h] at hl
 have hs':=Option.some.inj hl
 unfold guessS guessW
 rw[hs',splitL_cons msg_no]
 simp only[List.getD_cons_zero,wordN_3]
 have e:(sMessage++32::swapB 10 124 x.txt).drop (min (sMessage++32::swapB 10 124 x.txt).length 8)=swapB 10 124 x.txt:=by
  rw[Nat.min_eq_right (by simp[sMessage])]
  rfl
 rw[e,swap_back2 hbar]
 exact hx.symm
theorem guess_5 {x:Acx} (hk:x.k=5) (ho:x=only x) (hb:bodyB x=true) {s:Bs} (h:lineS x=some s):guessS s=x:=by
 have hx:x={A0 5 with rev:=x.rev}:=by
  conv=>lhs;rw[ho]
  unfold only
  rw[if_neg (by omega),if_neg (by omega),if_neg (by omega),if_neg (by omega),if_pos hk,hk]
 have ht:x.txt=[]:=by rw[hx];rfl
 unfold bodyB at hb
 rw[if_neg (by omega),if_neg (by omega),if_pos hk] at hb
 unfold revB at hb
 simp only[Bool.and_eq_true,decide_eq_true_eq,Bool.or_eq_true] at hb
 obtain⟨hr,hf,hn,ha⟩:=hb
 have hw:(wAct ([],false) x).1=if 4<=x.rev.k then[revN x.rev.k,x.rev.flt.fmt] else[revN x.rev.k,x.rev.flt.fmt,decW x.rev.amt]:=by
  unfold wAct
  rw[if_neg (by omega),if_neg (by omega),if_neg (by omega),if_neg (by omega),if_pos hk]
  unfold wRev
  rw[if_pos hr]
  split<;>rfl
 have hs:=line_split h (by rw[ht];decide) (by rw[hw];split<;>simp)
 rw[hw] at hs
 unfold guessS guessW
 rw[hs]
 have hkk:x.rev.k=1\/x.rev.k=2\/x.rev.k=3\/x.rev.k=4\/x.rev.k=5:=by omega
 have hrr:x.rev=⟨x.rev.k,x.rev.amt,x.rev.flt⟩:=rfl
 rcases hkk with c|c|c|c|c
 ·rw[if_neg (by omega),c]
  simp only[List.getD_cons_zero,List.getD_cons_succ,wordN_5]
  rw[flt_back hf,rval_dec hn]
  conv=>rhs;rw[hx,hrr,c]
 ·rw[if_neg (by omega),c]
  simp only[List.getD_cons_zero,List.getD_cons_succ,wordN_6]
  rw[flt_back hf,rval_dec hn]
  conv=>rhs;rw[hx,hrr,c]
 ·rw[if_neg (by omega),c]
  simp only[List.getD_cons_zero,List.getD_cons_succ,wordN_7]
  rw[flt_back hf,rval_dec hn]
  conv=>rhs;rw[hx,hrr,c]
 ·rw[if_pos (by omega),c]
  simp only[List.getD_cons_zero,List.getD_cons_succ,wordN_8]
  rw[flt_back hf]
  conv=>rhs;rw[hx,hrr,c,show x.rev.amt=0 from by omega]
 ·rw[if_pos (by omega),c]
  simp only[List.getD_cons_zero,List.getD_cons_succ,wordN_9]
  rw[flt_back hf]
  conv=>rhs;rw[hx,hrr,c,show x.rev.amt=0 from by omega]
theorem guess_1 {x:Acx} (hk:x.k=1) (ho:x=only x) (hb:bodyB x=true) {s:Bs} (h:lineS x=some s):guessS s=x:=by
 have hx:x={A0 1 with mv:=x.mv,gl:=x.gl,lost:=x.lost}:=by
  conv=>lhs;rw[ho]
  unfold only
  rw[if_pos hk,hk]
 have ht:x.txt=[]:=by rw[hx];rfl
 unfold bodyB at hb
 rw[if_pos hk,Bool.and_eq_true] at hb
 have m1:∀f∈x.mv,flawB 1 2 f=true:=List.all_eq_true.1 hb.1
 have g1:∀f∈x.gl,flawB 3 6 f=true:=List.all_eq_true.1 hb.2
 have hall:∀f∈x.mv++x.gl,(1<=f.k/\f.k<=6)/\numB f.n=true/\numB f.w=true:=by
  intro f hf
  rcases List.mem_append.1 hf with hf|hf
  ·obtain⟨a,b,c,d⟩:=flawB_of (m1 f hf);exact⟨⟨by omega,by omega⟩,c,d⟩
  ·obtain⟨a,b,c,d⟩:=flawB_of (g1 f hf);exact⟨⟨by omega,by omega⟩,c,d⟩
 have f1:lowF (x.mv++x.gl)=x.mv:=by
  unfold lowF
  rw[List.filter_append,filter_all fun f hf=>decide_eq_true (flawB_of (m1 f hf)).2.1,filter_no fun f hf=>decide_eq_false (by have:=(flawB_of (g1 f hf)).1;omega),List.append_nil]
 have f2:highF (x.mv++x.gl)=x.gl:=by
  unfold highF
  rw[List.filter_append,filter_no fun f hf=>by rw[decide_eq_true (flawB_of (m1 f hf)).2.1];rfl,filter_all fun f hf=>by rw[decide_eq_false (by have:=(flawB_of (g1 f hf)).1;omega)];rfl,List.nil_append]
 have hq:=h
 unfold lineS at hq
 split at hq
 case isFalse=>cases hq
 rename_i hc
 have hbad:=hc.2.2.2
 have hw0:wAct ([],false) x=wFaults 3 6 x.gl (wFaults 1 2 x.mv (if x.lost then wWord (wWord ([],false) sTick) sLost else wWord ([],false) sTick)):=by unfold wAct;rw[if_pos hk]
 have hw:(wAct ([],false) x).1=(if x.lost then[sTick,sLost] else[sTick])++(x.mv++x.gl).map wFault:=by
  rw[hw0] at hbad ⊢
  obtain⟨a1,a2,a3⟩:=wFaults_ok hbad
  obtain⟨b1,b2,b3⟩:=wFaults_ok a2
  rw[a3,b3,List.map_append]
  cases x.lost<;>simp[wWord]
 have hs:=line_split h (by rw[ht];decide) (by rw[hw];cases x.lost<;>simp)
 rw[hw] at hs
 unfold guessS guessW
 rw[hs]
 conv=>rhs;rw[hx]
 cases hl:x.lost with
 |true=>
  rw[if_pos rfl]
  simp only[List.cons_append,List.nil_append,List.getD_cons_zero,wordN_1,List.drop_succ_cons,List.drop_zero]
  unfold gTick
  rw[if_pos List.head?_cons,List.tail_cons,map_rfault hall,f1,f2]
 |false=>
  rw[if_neg (by decide)]
  simp only[List.cons_append,List.nil_append,List.getD_cons_zero,wordN_1,List.drop_succ_cons,List.drop_zero]
  unfold gTick
  have hne:¬((x.mv++x.gl).map wFault).head?=some sLost:=by
   cases x.mv++x.gl with
   |nil=>simp
   |cons f l=>simp[wFault_lost]
  rw[if_neg hne,map_rfault hall,f1,f2]
  rfl
theorem guess_line {x:Acx} {s:Bs} (h:lineS x=some s):guessS s=x:=by
 have hp:plainA x=true:=by rw[plainA_line,h];rfl
 unfold plainA at hp
 simp only[Bool.and_eq_true,decide_eq_true_eq] at hp
 obtain⟨⟨h1,h2⟩,ho,hb⟩:=hp
 have hk:x.k=1\/x.k=2\/x.k=3\/x.k=4\/x.k=5\/x.k=6\/x.k=7\/x.k=8\/x.k=9\/x.k=10\/x.k=11\/x.k=12\/x.k=13\/x.k=14:=by omega
 rcases hk with hk|hk|hk|hk|hk|hk|hk|hk|hk|hk|hk|hk|hk|hk
 ·exact guess_1 hk ho hb h
 ·exact guess_2 hk ho hb h
 ·exact guess_3 hk ho hb h
 ·exact guess_4 hk ho hb h
 ·exact guess_5 hk ho hb h
 ·exact guess_6 hk ho hb h
 ·exact guess_7 hk ho hb h
 ·exact guess_8 hk ho hb h
 ·exact guess_9 hk ho hb h
 ·exact guess_10 hk ho hb h
 ·exact guess_11 hk ho hb h
 ·exact guess_12 hk ho hb h
 ·exact guess_13 hk ho hb h
 ·exact guess_14 hk ho hb h
theorem rparse_eq (s:Bs):rparseS s=parseS s:=by
 unfold rparseS
 by_cases c:lineS (guessS s)=some s
 ·rw[if_pos c,line_parse c]
 ·rw[if_neg c]
  cases hp:parseS s with
  |none=>rfl
  |some x=>
   have h1:=parse_line hp
   rw[guess_line h1] at c
   exact absurd h1 c
open Go.Scr
theorem split_step {c:UInt8} {s:Bs} {fr i:Nat} {out:List Bs} (h:splitL c s=out++splitL c (s.drop fr)) (hf:fr<=i) (hi:i<s.length) (hno:c∉(s.take i).drop fr) (hc:s.getD i 0=c):
  splitL c s=(out++[(s.take i).drop fr])++splitL c (s.drop (i+1)):=by
 have e:s.drop fr=(s.take i).drop fr++c::s.drop (i+1):=by
  have e1:s=s.take i++c::s.drop (i+1):=by
   have h1:s.drop i=c::s.drop (i+1):=by
    rw[List.drop_eq_getElem_cons hi]
    congr 1
    rw[List.getD_eq_getElem?_getD,List.getElem?_eq_getElem hi] at hc
    exact hc
   rw[<-h1,List.take_append_drop]
  conv=>lhs;rw[e1]
  rw[List.drop_append_of_le_length (by rw[List.length_take];omega)]
 rw[h,e,splitL_cons hno]
 simp
theorem split_no {c:UInt8} {s:Bs} {fr i:Nat} (hi:i<s.length) (hf:fr<=i) (hno:c∉(s.take i).drop fr) (hc:s.getD i 0≠c):c∉(s.take (i+1)).drop fr:=by
 rw[take_snoc hi,List.drop_append_of_le_length (by rw[List.length_take];omega)]
 simp only[List.mem_append,List.mem_singleton,not_or]
 exact⟨hno,fun h=>hc h.symm⟩
theorem rsplit_sat (s:Bs) (c:UInt8) (hs:s.length<=1000000):SatG Tryz.prog tab 53 [] [S (strOf s),Uc c] [] (.sl (strs (splitL c s)) false):=by
 generalize hT:splitL c s=T
 refine uFN Tryz.func53 Tryz.ntmps53 ?_;intro w e X hC
 repeat refine uA ?_
 refine uW ?_
 refine awp_loopW (fun i:Nat×Nat×Nat×List Bs=>⟨[(0,S (strOf s)),(1,Uc c),(5, .slO 105 2 0 i.2.2.2.length),(6,I i.2.1),(7,I i.2.2.1)],[(105,some (2, .own 9 1 (strs i.2.2.2)))],i.1⟩) (fun i=>i.2.1<=i.2.2.1/\i.2.2.1<=s.length/\i.2.2.2.length<=i.2.2.1/\c∉(s.take i.2.2.1).drop i.2.1/\splitL c s=i.2.2.2++splitL c (s.drop i.2.1)) (fun i=>s.length - i.2.2.1) (_,0,0,[]) ⟨Nat.le_refl _,Nat.zero_le _,Nat.zero_le _,by simp,by simp⟩ (uKF) ?_
 rintro⟨ck,fr,i,out⟩ ⟨h1,h2,h5,h3,h4⟩
 simp only at h1 h2 h3 h4 h5
 refine uA ?_
 refine uW ?_;refine condP _ rfl (fun h=>?_) (fun h=>?_)
 ·have hlt:i<s.length:=by omega
  have hu:=u8_eq (s.getD i 0) c
  by_cases c0:s.getD i 0=c
  ·have hst:=split_step h4 h1 hlt h3 c0
   rw[decide_eq_true c0] at hu
   refine uA1 @hu ?_
   have hln:(out++[(s.take i).drop fr]).length=out.length+1:=by simp
   refine uT ?_
   repeat refine uA ?_
   refine⟨(_,i+1,i+1,out++[(s.take i).drop fr]),⟨by simp only;omega,by simp only;omega,by simp only;omega,by simp only;rw[List.drop_of_length_le (by rw[List.length_take];omega)];simp,hst⟩,by simp only;omega, .of (Nat.le_refl _) (uHF1 @hln) (uWF1 @hln)⟩
  ·rw[decide_eq_false c0] at hu
   refine uA1 @hu ?_
   refine uF ?_
   repeat refine uA ?_
   refine⟨(_,fr,i+1,out),⟨by simp only;omega,by simp only;omega,by simp only;omega,split_no hlt h1 h3 c0,h4⟩,by simp only;omega,uKF⟩
 ·refine awp_exit ?_
  have:i=s.length:=by omega
  subst this
  rw[List.take_length] at h3
  rw[splitL_word h3,hT] at h4
  rw[h4]
  repeat refine uA ?_
  refine awp_ret ?_;rw[show Tryz.f53.results.toList=[.tmp 4] from rfl];first|refine uRN ?_|exact uRM
open Go.Scr
theorem rval_no {s:Bs} (h:¬(s≠[]/\s.length<=6/\s.all digit=true/\¬(s.getD 0 0=48/\1<s.length))):rval s=-1:=by unfold rval;rw[if_neg h]
theorem rnum_sat (s:Bs) (hs:s.length<=1000000):SatG Tryz.prog tab 99 [] [S (strOf s)] [] (I (rval s)):=by
 refine uFN Tryz.func99 Tryz.ntmps99 ?_;intro w e X hC
 repeat refine uA ?_
 refine uW ?_
 refine awp_loopW (fun i:Nat×Nat=>⟨[(0,S (strOf s)),(3,I (numL 0 (s.take i.2):Nat)),(4,I i.2)],[],i.1⟩) (fun i=>i.2<=s.length/\i.2<=6/\(s.take i.2).all digit=true) (fun i=>s.length - i.2) (_,0) ⟨Nat.zero_le _,Nat.zero_le _,rfl⟩ (uKF) ?_
 rintro⟨ck,i⟩ ⟨hi,hi6,hj⟩
 simp only at hi hi6 hj
 have hn:numL 0 (s.take i)<10000000:=by
  have h1:=numL_lt (s.take i) 0 (fun c hc=>List.all_eq_true.1 hj c hc)
  rw[List.length_take,Nat.min_eq_left hi,Nat.zero_add,Nat.one_mul] at h1
  exact Nat.lt_of_lt_of_le h1 (Nat.pow_le_pow_right (by decide) (by omega:i<=7))
 refine uA ?_
 refine uW ?_;refine condP _ rfl (fun h=>?_) (fun h=>?_)
 ·have hlt:i<s.length:=by omega
  have hno:digit (s.getD i 0)=false->I (rval s)=I (-1):=fun h=>by rw[rval_no (fun h'=>by rw[not_all hlt h] at h';exact absurd h'.2.2.1 (by decide))]
  by_cases c0:(s.getD i 0).toNat<48
  ·have e0:=uDt ((((s.getD i 0).toNat:Nat):Int)<48)
   rw[hno (decide_eq_false (by omega))]
   repeat refine uA1 @e0 ?_
   refine uT ?_
   repeat refine uA ?_
   (refine awp_ret (ret1 uRT ?_);try rfl)
  ·have e0:=uDf ((((s.getD i 0).toNat:Nat):Int)<48)
   by_cases c1:57<(s.getD i 0).toNat
   ·have e1:=uDt (57<(((s.getD i 0).toNat:Nat):Int))
    rw[hno (decide_eq_false (by omega))]
    repeat refine uA1 (uI @e0 @e1) ?_
    refine uT ?_
    repeat refine uA ?_
    (refine awp_ret (ret1 uRT ?_);try rfl)
   ·have e1:=uDf (57<(((s.getD i 0).toNat:Nat):Int))
    have hdg:digit (s.getD i 0)=true:=decide_eq_true ⟨by omega,by omega⟩
    by_cases c2:5<i
    ·have e2:=uDt (5<(i:Int))
     rw[rval_no (fun h'=>by have:=h'.2.1;omega)]
     repeat refine uA1 (uI @e0 (uI @e1 @e2)) ?_
     refine uT ?_
     repeat refine uA ?_
     (refine awp_ret (ret1 uRT ?_);try rfl)
    ·have e2:=uDf (5<(i:Int))
     have t1:=take_snoc hlt
     have t2:=numL_snoc 0 (s.take i) (s.getD i 0)
     rw[<-t1] at t2
     have hw:=wrap_dig hdg
     have t3:((numL 0 (s.take (i+1)):Nat):Int)=10*(numL 0 (s.take i):Nat)+(((s.getD i 0).toNat:Int) - 48):=by omega
     repeat refine uA1 (uI @e0 (uI @e1 @e2)) ?_
     refine uF ?_
     repeat refine uA1 @hw ?_
     refine⟨(_,i+1),⟨by simp only;omega,by simp only;omega,take_all hlt hj hdg⟩,by simp only;omega, .of (Nat.le_refl _) uHF (uWF1 @t3)⟩
 ·refine awp_exit ?_
  have:i=s.length:=by omega
  subst this
  rw[List.take_length] at hj hn ⊢
  by_cases c0:s.length=0
  ·have e0:=uDt ((s.length:Int)=0)
   rw[rval_no (fun h'=>h'.1 (List.eq_nil_of_length_eq_zero c0))]
   repeat refine uA1 @e0 ?_
   refine uT ?_
   repeat refine uA ?_
   (refine awp_ret (ret1 uRT ?_);try rfl)
  ·have e0:=uDf ((s.length:Int)=0)
   have hne:s≠[]:=fun h=>c0 (by rw[h];rfl)
   have h0:0<s.length:=by omega
   have e48:decide ((((s.getD 0 0).toNat:Nat):Int)=48)=decide (s.getD 0 0=48):=u8_eq _ 48
   by_cases c1:s.getD 0 0=48
   ·by_cases c2:1<s.length
    ·have e2:=uDt (1<(s.length:Int))
     rw[decide_eq_true c1] at e48
     rw[rval_no (fun h'=>h'.2.2.2 ⟨c1,c2⟩)]
     repeat refine uA1 (uI @e0 (uI @e48 @e2)) ?_
     refine uT ?_
     repeat refine uA ?_
     (refine awp_ret (ret1 uRT ?_);try rfl)
    ·have e2:=uDf (1<(s.length:Int))
     rw[decide_eq_true c1] at e48
     rw[show rval s=(numL 0 s:Nat) from if_pos ⟨hne,hi6,hj,fun h=>c2 h.2⟩]
     repeat refine uA1 (uI @e0 (uI @e48 @e2)) ?_
     refine uF ?_
     repeat refine uA ?_
     (refine awp_ret (ret1 uRT ?_);try rfl)
   ·rw[decide_eq_false c1] at e48
    rw[show rval s=(numL 0 s:Nat) from if_pos ⟨hne,hi6,hj,fun h=>c1 h.1⟩]
    repeat refine uA1 (uI @e0 @e48) ?_
    refine uF ?_
    repeat refine uA ?_
    (refine awp_ret (ret1 uRT ?_);try rfl)
theorem rat_sat (l:List Bs) (i:Nat) (hl:l.length<=1000000) (hi:i<=1000000):SatG Tryz.prog tab 97 [] [.sl (strs l) false,I i] [] (S (strOf (l.getD i []))):=by
 refine uFN Tryz.func97 Tryz.ntmps97 ?_;intro w e X hC
 repeat refine uA ?_
 refine uW ?_;refine condP _ rfl (fun h=>?_) (fun h=>?_)
 ·have hlt:i<l.length:=by omega
  repeat refine uA1 (strs_getD hlt) ?_
  (refine awp_ret (ret1 uRT ?_);try rfl)
 ·have e:l.getD i []=[]:=by rw[List.getD_eq_getElem?_getD,List.getElem?_eq_none (by omega)];rfl
  rw[e]
  repeat refine uA ?_
  (refine awp_ret (ret1 uRT ?_);try rfl)
def wordsL:List Bs:=[faultN 1,faultN 2,faultN 3,faultN 4,faultN 5,faultN 6]
theorem rwords_sat:SatG Tryz.prog tab 74 [] [] [] (.sl (strs wordsL) false):=by
 refine uFN Tryz.func74 Tryz.ntmps74 ?_;intro w e X hC
 repeat refine uA ?_
 refine awp_ret ?_;rw[show Tryz.f74.results.toList=[.tmp 0] from rfl];first|refine uRN ?_|exact uRM
 rfl
theorem kind_at {s:Bs} {i:Nat} (hi:i<6) (h:wordsL.getD i []=s):kindOf s=i+1:=by
 have:i=0\/i=1\/i=2\/i=3\/i=4\/i=5:=by omega
 subst h
 rcases this with rfl|rfl|rfl|rfl|rfl|rfl<;>decide
theorem kind_no {s:Bs} (h:∀j,j<6->wordsL.getD j []≠s):kindOf s=0:=by
 unfold kindOf
 rw[if_neg fun e=>h 0 (by decide) e.symm,if_neg fun e=>h 1 (by decide) e.symm,if_neg fun e=>h 2 (by decide) e.symm,if_neg fun e=>h 3 (by decide) e.symm,if_neg fun e=>h 4 (by decide) e.symm,if_neg fun e=>h 5 (by decide) e.symm]
theorem rfault_sat (s:Bs) (hs:s.length<=1000000):SatG Tryz.prog tab 100 [] [S (strOf s)] [] (rfault s).av:=by
 have g1:=rsplit_sat s 58 hs
 have hlen:=splitL_len 58 s
 unfold rfault
 generalize splitL 58 s=p at*
 refine uFN Tryz.func100 Tryz.ntmps100 ?_;intro w e X hC
 repeat refine uA ?_
 refine uR ?_;intro K hK
 refine uH ?_
 refine callP uTS (g1) uTS uTS uTS ?_;refine uS ?_
 refine uH ?_
 refine hK _ ?_;clear hK K
 repeat refine uA ?_
 refine uW ?_;refine condP _ rfl (fun c0=>?_) (fun c0=>?_)
 ·rw[if_neg (fun h=>c0 (by omega))]
  repeat refine uA ?_
  refine awp_ret ?_;rw[show Tryz.f100.results.toList=[.cell 2 79] from rfl];first|refine uRN ?_|exact uRM
  rfl
 ·have hp:p.length=3:=by omega
  have gw:=rwords_sat
  obtain⟨a,b,c,rfl⟩:∃a b c,p=[a,b,c]:=by
   match p,hp with
   |[a,b,c],_=>exact⟨a,b,c,rfl⟩
  have ha:=hlen a (by simp)
  have hb:=hlen b (by simp)
  have hc:=hlen c (by simp)
  have v1:=rnum_sat b (by omega)
  have v2:=rnum_sat c (by omega)
  have w3:(strs wordsL).length=6:=rfl
  have e2:strs [a,b,c]=[S (strOf a),S (strOf b),S (strOf c)]:=rfl
  simp only[List.getD_cons_zero,List.getD_cons_succ]
  generalize hT:(if[a,b,c].length=3/\kindOf a≠0 then(⟨kindOf a,rval b,rval c⟩:Flaw) else W0)=T
  refine uR ?_;intro K hK
  refine uH ?_
  refine callP uTS (gw) uTS uTS uTS ?_;refine uS ?_
  refine uH ?_
  refine hK _ ?_;clear hK K
  refine uW ?_
  refine awp_loopW (fun i:Nat×Nat=>⟨[(2, .ptO 102 1 0 0 0),(3, .sl (strs [a,b,c]) false),(12, .sl (strs wordsL) false),(13,I 6),(14,I i.2)],[(102,some (1, .box [I 0,I 0,I 0]))],i.1⟩) (fun i=>i.2<=6/\∀j,j<i.2->wordsL.getD j []≠a) (fun i=>6 - i.2) (_,0) ⟨Nat.zero_le _,fun j hj=>absurd hj (Nat.not_lt_zero _)⟩ (.of (Nat.le_refl _) uHF (uWF1 @w3)) ?_
  rintro⟨ck,i⟩ ⟨hi,hj⟩
  simp only at hi hj
  refine uA ?_
  refine uW ?_;refine condP _ rfl (fun h=>?_) (fun h=>?_)
  ·have hlt:i<6:=by omega
   have hw:(strs wordsL).getD i .bad=S (strOf (wordsL.getD i [])):=strs_getD hlt
   by_cases c1:wordsL.getD i []=a
   ·have hk:=kind_at hlt c1
    have d1:decide (wordsL.getD i []=a)=true:=decide_eq_true c1
    rw[if_pos ⟨rfl,by omega⟩,hk] at hT
    rw[<-hT]
    generalize wordsL.getD i []=u at*
    repeat refine uA1 (uI @hw (uI @e2 (uI @d1 @w3))) ?_
    refine uT ?_
    refine uD1 @e2 ?_;intro K hK
    refine uH ?_
    refine callF uTS (v1) uTS uTS uTS ?_;refine uS ?_
    try refine uS1 @e2 ?_
    refine uH ?_
    refine callF uTS (v2) uTS uTS uTS ?_;refine uS ?_
    try refine uS1 @e2 ?_
    refine uH ?_
    refine hK _ ?_;clear hK K
    refine awp_ret ?_;rw[show Tryz.f100.results.toList=[.cell 2 79] from rfl];first|refine uRN ?_|exact uRM
    try rfl
   ·have d1:decide (wordsL.getD i []=a)=false:=decide_eq_false c1
    repeat refine uA1 (uI @hw (uI @e2 (uI @d1 @w3))) ?_
    refine uF ?_
    repeat refine uA ?_
    have hj2:∀j,j<i+1->wordsL.getD j []≠a:=fun j hj'=>by
     by_cases hji:j=i
     ·rw[hji];exact c1
     ·exact hj j (by omega)
    refine⟨(_,i+1),⟨by simp only;omega,hj2⟩,by simp only;omega,uKF⟩
  ·refine awp_exit ?_
   have:i=6:=by omega
   subst this
   rw[if_neg (fun h=>h.2 (kind_no hj))] at hT
   rw[<-hT]
   repeat refine uA ?_
   refine awp_ret ?_;rw[show Tryz.f100.results.toList=[.cell 2 79] from rfl];first|refine uRN ?_|exact uRM
   rfl
open Go.Scr
theorem rdes_sat (f:Flt) (h1:f.car.length<=1000000) (h2:f.suf.length<=1000000):SatG Tryz.prog tab 75 [] [Flt.av f] [] (S (strOf f.des)):=by
 have h0:=rfvalid_sat f h1 h2
 refine uFN Tryz.func75 Tryz.ntmps75 ?_;intro w e X hC
 repeat refine uA ?_
 cases c0:f.ok with
 |false=>
  have e:f.des=[]:=by unfold Flt.des;rw[c0];rfl
  rw[c0] at h0
  rw[e]
  refine uR ?_;intro K hK
  refine uH ?_
  refine callF uTS (h0) uTS uTS uTS ?_;refine uS ?_
  refine hK _ ?_;clear hK K
  refine uT ?_
  repeat refine uA ?_
  (refine awp_ret (ret1 uRT ?_);try rfl)
 |true=>
  obtain⟨q1,q2,q3,q4,q5,q6⟩:=fok c0
  have e:f.des=f.car++digs f.num.toNat 4++f.suf:=by unfold Flt.des;rw[c0];rfl
  have g1:=rdigits_sat f.num.toNat 4 (by omega) (by decide) (by decide)
  rw[show((f.num.toNat:Nat):Int)=f.num by omega] at g1
  have hl:(digs f.num.toNat 4).length=4:=digs_length _ _
  rw[c0] at h0
  rw[e]
  refine uR ?_;intro K hK
  refine uH ?_
  refine callF uTS (h0) uTS uTS uTS ?_;refine uS ?_
  refine hK _ ?_;clear hK K
  refine uF ?_
  refine uD ?_;intro K hK
  refine uH ?_
  refine callF uTS (g1) uTS uTS uTS ?_;refine uS ?_
  try refine uS ?_
  refine uH ?_
  refine hK _ ?_;clear hK K
  (refine awp_ret (ret1 uRT ?_);try rfl)
theorem rfformat_sat (f:Flt) (h1:f.car.length<=1000000) (h2:f.suf.length<=1000000):SatG Tryz.prog tab 42 [] [Flt.av f] [] (S (strOf f.fmt)):=by
 have h0:=rfvalid_sat f h1 h2
 have hd:=rdes_sat f h1 h2
 refine uFN Tryz.func42 Tryz.ntmps42 ?_;intro w e X hC
 repeat refine uA ?_
 cases c0:f.ok with
 |false=>
  have e:f.fmt=[]:=by unfold Flt.fmt;rw[c0];rfl
  rw[c0] at h0
  rw[e]
  refine uR ?_;intro K hK
  refine uH ?_
  refine callF uTS (h0) uTS uTS uTS ?_;refine uS ?_
  refine hK _ ?_;clear hK K
  refine uT ?_
  repeat refine uA ?_
  (refine awp_ret (ret1 uRT ?_);try rfl)
 |true=>
  obtain⟨q1,q2,q3,q4,q5,q6⟩:=fok c0
  have e:f.fmt=f.des++[47]++digs f.day.toNat 2:=by unfold Flt.fmt Flt.des;rw[c0];rfl
  have g1:=rdigits_sat f.day.toNat 2 (by omega) (by decide) (by decide)
  rw[show((f.day.toNat:Nat):Int)=f.day by omega] at g1
  have hl:(digs f.day.toNat 2).length=2:=digs_length _ _
  have hl2:f.des.length<=10:=by
   unfold Flt.des;rw[c0]
   simp only[if_true,List.length_append,digs_length];omega
  rw[c0] at h0
  rw[e]
  refine uR ?_;intro K hK
  refine uH ?_
  refine callF uTS (h0) uTS uTS uTS ?_;refine uS ?_
  refine hK _ ?_;clear hK K
  refine uF ?_
  refine uD1 @str_mk ?_;intro K hK
  refine uH ?_
  refine callF uTS (hd) uTS uTS uTS ?_;refine uS ?_
  try refine uS1 @str_mk ?_
  refine uH ?_
  refine callF uTS (g1) uTS uTS uTS ?_;refine uS ?_
  try refine uS1 @str_mk ?_
  refine uH ?_
  refine hK _ ?_;clear hK K
  (refine awp_ret (ret1 uRT ?_);try rfl)
theorem rfparse_9 (s:Bs) (c0:s.length=9):SatG Tryz.prog tab 98 [] [S (strOf s)] [] (.tup [Flt.av (fltParse s).1,I (fltParse s).2]):=by
 have hbad:fltShape s=false->fltParse s=(F0,3):=fun h=>by unfold fltParse;rw[h];rfl
 have e1:(decide ¬(s.length:Int)=9)=false:=decide_eq_false (by omega)
 have e2:(decide ¬(s.length:Int)=10)=true:=decide_eq_true (by omega)
 have g1:=rall_sat ((s.take 6).drop 2) (by rw[List.length_drop,List.length_take];omega)
 have g2:=rall_sat (s.drop (s.length - 2)) (by rw[List.length_drop];omega)
 have g3:=rcar_sat (s.take 2) (by rw[List.length_take];omega)
 have g4:=rsuf_sat ((s.take (s.length - 3)).drop 6) (by rw[List.length_drop,List.length_take];omega)
 have b1:(s.length:Int) - 3=((s.length - 3:Nat):Int):=by omega
 have b2:(s.length:Int) - 2=((s.length - 2:Nat):Int):=by omega
 have hsh:fltShape s=(decide (s.getD (s.length - 3) 0=47)&&carB (s.take 2)&&((s.take 6).drop 2).all digit&&sufB ((s.take (s.length - 3)).drop 6)&&(s.drop (s.length - 2)).all digit):=by
  unfold fltShape
  rw[decide_eq_true (by omega),Bool.true_and]
 have hgood:fltShape s=true->fltParse s=if(fltOf s).num=0 then(F0,1) else(fltOf s,0):=fun h=>by unfold fltParse;rw[h];rfl
 have b47:(decide ¬(((s.getD (s.length - 3) 0).toNat:Nat):Int)=47)=!decide (s.getD (s.length - 3) 0=47):=by
  have:(((s.getD (s.length - 3) 0).toNat:Nat):Int)=47↔s.getD (s.length - 3) 0=47:=by
   constructor
   ·intro h
    exact UInt8.toNat_inj.1 (by show _=47;omega)
   ·intro h;rw[h];rfl
  rw[<-decide_not]
  exact decide_eq_decide.2 (not_congr this)
 refine uFN Tryz.func98 Tryz.ntmps98 ?_;intro w e X hC
 repeat refine uA ?_
 cases c1:decide (s.getD (s.length - 3) 0=47) with
 |false=>
  rw[c1] at b47
  rw[hbad (by rw[hsh,c1];simp only[Bool.and_false,Bool.false_and])]
  refine uR1 (uI @e1 (uI @e2 (uI @b1 (uI @b2 @b47)))) ?_;intro K hK
  refine uH ?_
  refine hK _ ?_;clear hK K
  refine uT ?_
  repeat refine uA ?_
  refine awp_ret ?_;rw[show Tryz.f98.results.toList=[.cell 2 26, .tmp 3] from rfl];first|refine uRN ?_|exact uRM
  rfl
 |true=>
  rw[c1] at b47
  cases c2:carB (s.take 2) with
  |false=>
   rw[c2] at g3
   rw[hbad (by rw[hsh,c2];simp only[Bool.and_false,Bool.false_and])]
   refine uR1 (uI @e1 (uI @e2 (uI @b1 (uI @b2 @b47)))) ?_;intro K hK
   refine uH ?_
   refine callF uTS (g3) uTS uTS uTS ?_;refine uS ?_
   try refine uS1 (uI @b1 @b2) ?_
   refine uH ?_
   refine hK _ ?_;clear hK K
   refine uT ?_
   repeat refine uA ?_
   refine awp_ret ?_;rw[show Tryz.f98.results.toList=[.cell 2 26, .tmp 3] from rfl];first|refine uRN ?_|exact uRM
   rfl
  |true=>
   rw[c2] at g3
   cases c3:((s.take 6).drop 2).all digit with
   |false=>
    rw[c3] at g1
    rw[hbad (by rw[hsh,c3];simp only[Bool.and_false,Bool.false_and])]
    refine uR1 (uI @e1 (uI @e2 (uI @b1 (uI @b2 @b47)))) ?_;intro K hK
    refine uH ?_
    refine callF uTS (g3) uTS uTS uTS ?_;refine uS ?_
    try refine uS1 (uI @b1 @b2) ?_
    refine uH ?_
    refine callF uTS (g1) uTS uTS uTS ?_;refine uS ?_
    try refine uS1 (uI @b1 @b2) ?_
    refine uH ?_
    refine hK _ ?_;clear hK K
    refine uT ?_
    repeat refine uA ?_
    refine awp_ret ?_;rw[show Tryz.f98.results.toList=[.cell 2 26, .tmp 3] from rfl];first|refine uRN ?_|exact uRM
    rfl
   |true=>
    rw[c3] at g1
    cases c4:sufB ((s.take (s.length - 3)).drop 6) with
    |false=>
     rw[c4] at g4
     rw[hbad (by rw[hsh,c4];simp only[Bool.and_false,Bool.false_and])]
     refine uR1 (uI @e1 (uI @e2 (uI @b1 (uI @b2 @b47)))) ?_;intro K hK
     refine uH ?_
     refine callF uTS (g3) uTS uTS uTS ?_;refine uS ?_
     try refine uS1 (uI @b1 @b2) ?_
     refine uH ?_
     refine callF uTS (g1) uTS uTS uTS ?_;refine uS ?_
     try refine uS1 (uI @b1 @b2) ?_
     refine uH ?_
     refine callF uTS (g4) uTS uTS uTS ?_;refine uS ?_
     try refine uS1 (uI @b1 @b2) ?_
     refine uH ?_
     refine hK _ ?_;clear hK K
     refine uT ?_
     repeat refine uA ?_
     refine awp_ret ?_;rw[show Tryz.f98.results.toList=[.cell 2 26, .tmp 3] from rfl];first|refine uRN ?_|exact uRM
     rfl
    |true=>
     rw[c4] at g4
     cases c5:(s.drop (s.length - 2)).all digit with
     |false=>
      rw[c5] at g2
      rw[hbad (by rw[hsh,c5];simp only[Bool.and_false,Bool.false_and])]
      refine uR1 (uI @e1 (uI @e2 (uI @b1 (uI @b2 @b47)))) ?_;intro K hK
      refine uH ?_
      refine callF uTS (g3) uTS uTS uTS ?_;refine uS ?_
      try refine uS1 (uI @b1 @b2) ?_
      refine uH ?_
      refine callF uTS (g1) uTS uTS uTS ?_;refine uS ?_
      try refine uS1 (uI @b1 @b2) ?_
      refine uH ?_
      refine callF uTS (g4) uTS uTS uTS ?_;refine uS ?_
      try refine uS1 (uI @b1 @b2) ?_
      refine uH ?_
      refine callF uTS (g2) uTS uTS uTS ?_;refine uS ?_
      try refine uS1 (uI @b1 @b2) ?_
      refine uH ?_
      refine hK _ ?_;clear hK K
      refine uT ?_
      repeat refine uA ?_
      refine awp_ret ?_;rw[show Tryz.f98.results.toList=[.cell 2 26, .tmp 3] from rfl];first|refine uRN ?_|exact uRM
      rfl
     |true=>
      rw[c5] at g2
      have v1:=rvalue_sat ((s.take 6).drop 2) (by rw[List.length_drop,List.length_take];omega) c3
      have v2:=rvalue_sat (s.drop (s.length - 2)) (by rw[List.length_drop];omega) c5
      have hnum:(fltOf s).num=(numL 0 ((s.take 6).drop 2):Nat):=rfl
      rw[hgood (by rw[hsh,c1,c2,c3,c4,c5];rfl),hnum]
      refine uR1 (uI @e1 (uI @e2 (uI @b1 (uI @b2 @b47)))) ?_;intro K hK
      refine uH ?_
      refine callF uTS (g3) uTS uTS uTS ?_;refine uS ?_
      try refine uS1 (uI @b1 @b2) ?_
      refine uH ?_
      refine callF uTS (g1) uTS uTS uTS ?_;refine uS ?_
      try refine uS1 (uI @b1 @b2) ?_
      refine uH ?_
      refine callF uTS (g4) uTS uTS uTS ?_;refine uS ?_
      try refine uS1 (uI @b1 @b2) ?_
      refine uH ?_
      refine callF uTS (g2) uTS uTS uTS ?_;refine uS ?_
      try refine uS1 (uI @b1 @b2) ?_
      refine uH ?_
      refine hK _ ?_;clear hK K
      refine uF ?_
      refine uD1 (uI @b1 @b2) ?_;intro K hK
      refine uH ?_
      refine callF uTS (v1) uTS uTS uTS ?_;refine uS ?_
      try refine uS1 (uI @b1 @b2) ?_
      refine uH ?_
      refine callF uTS (v2) uTS uTS uTS ?_;refine uS ?_
      try refine uS1 (uI @b1 @b2) ?_
      refine uH ?_
      refine hK _ ?_;clear hK K
      refine uA ?_
      refine uW ?_;refine condP _ rfl (fun cz=>?_) (fun cz=>?_)
      ·rw[if_pos cz]
       repeat refine uA ?_
       refine awp_ret ?_;rw[show Tryz.f98.results.toList=[.cell 2 26, .tmp 3] from rfl];first|refine uRN ?_|exact uRM
       rfl
      ·rw[if_neg cz]
       have e5:fltOf s=⟨s.take 2,(numL 0 ((s.take 6).drop 2):Nat),(s.take (s.length - 3)).drop 6,(numL 0 (s.drop (s.length - 2)):Nat)⟩:=rfl
       rw[e5]
       repeat refine uA ?_
       refine awp_ret ?_;rw[show Tryz.f98.results.toList=[.cell 2 26, .tmp 3] from rfl];first|refine uRN ?_|exact uRM
theorem rfparse_10 (s:Bs) (c0:s.length=10):SatG Tryz.prog tab 98 [] [S (strOf s)] [] (.tup [Flt.av (fltParse s).1,I (fltParse s).2]):=by
 have hbad:fltShape s=false->fltParse s=(F0,3):=fun h=>by unfold fltParse;rw[h];rfl
 have e1:(decide ¬(s.length:Int)=9)=true:=decide_eq_true (by omega)
 have e2:(decide ¬(s.length:Int)=10)=false:=decide_eq_false (by omega)
 have g1:=rall_sat ((s.take 6).drop 2) (by rw[List.length_drop,List.length_take];omega)
 have g2:=rall_sat (s.drop (s.length - 2)) (by rw[List.length_drop];omega)
 have g3:=rcar_sat (s.take 2) (by rw[List.length_take];omega)
 have g4:=rsuf_sat ((s.take (s.length - 3)).drop 6) (by rw[List.length_drop,List.length_take];omega)
 have b1:(s.length:Int) - 3=((s.length - 3:Nat):Int):=by omega
 have b2:(s.length:Int) - 2=((s.length - 2:Nat):Int):=by omega
 have hsh:fltShape s=(decide (s.getD (s.length - 3) 0=47)&&carB (s.take 2)&&((s.take 6).drop 2).all digit&&sufB ((s.take (s.length - 3)).drop 6)&&(s.drop (s.length - 2)).all digit):=by
  unfold fltShape
  rw[decide_eq_true (by omega),Bool.true_and]
 have hgood:fltShape s=true->fltParse s=if(fltOf s).num=0 then(F0,1) else(fltOf s,0):=fun h=>by unfold fltParse;rw[h];rfl
 have b47:(decide ¬(((s.getD (s.length - 3) 0).toNat:Nat):Int)=47)=!decide (s.getD (s.length - 3) 0=47):=by
  have:(((s.getD (s.length - 3) 0).toNat:Nat):Int)=47↔s.getD (s.length - 3) 0=47:=by
   constructor
   ·intro h
    exact UInt8.toNat_inj.1 (by show _=47;omega)
   ·intro h;rw[h];rfl
  rw[<-decide_not]
  exact decide_eq_decide.2 (not_congr this)
 refine uFN Tryz.func98 Tryz.ntmps98 ?_;intro w e X hC
 repeat refine uA ?_
 cases c1:decide (s.getD (s.length - 3) 0=47) with
 |false=>
  rw[c1] at b47
  rw[hbad (by rw[hsh,c1];simp only[Bool.and_false,Bool.false_and])]
  refine uR1 (uI @e1 (uI @e2 (uI @b1 (uI @b2 @b47)))) ?_;intro K hK
  refine uH ?_
  refine hK _ ?_;clear hK K
  refine uT ?_
  repeat refine uA ?_
  refine awp_ret ?_;rw[show Tryz.f98.results.toList=[.cell 2 26, .tmp 3] from rfl];first|refine uRN ?_|exact uRM
  rfl
 |true=>
  rw[c1] at b47
  cases c2:carB (s.take 2) with
  |false=>
   rw[c2] at g3
   rw[hbad (by rw[hsh,c2];simp only[Bool.and_false,Bool.false_and])]
   refine uR1 (uI @e1 (uI @e2 (uI @b1 (uI @b2 @b47)))) ?_;intro K hK
   refine uH ?_
   refine callF uTS (g3) uTS uTS uTS ?_;refine uS ?_
   try refine uS1 (uI @b1 @b2) ?_
   refine uH ?_
   refine hK _ ?_;clear hK K
   refine uT ?_
   repeat refine uA ?_
   refine awp_ret ?_;rw[show Tryz.f98.results.toList=[.cell 2 26, .tmp 3] from rfl];first|refine uRN ?_|exact uRM
   rfl
  |true=>
   rw[c2] at g3
   cases c3:((s.take 6).drop 2).all digit with
   |false=>
    rw[c3] at g1
    rw[hbad (by rw[hsh,c3];simp only[Bool.and_false,Bool.false_and])]
    refine uR1 (uI @e1 (uI @e2 (uI @b1 (uI @b2 @b47)))) ?_;intro K hK
    refine uH ?_
    refine callF uTS (g3) uTS uTS uTS ?_;refine uS ?_
    try refine uS1 (uI @b1 @b2) ?_
    refine uH ?_
    refine callF uTS (g1) uTS uTS uTS ?_;refine uS ?_
    try refine uS1 (uI @b1 @b2) ?_
    refine uH ?_
    refine hK _ ?_;clear hK K
    refine uT ?_
    repeat refine uA ?_
    refine awp_ret ?_;rw[show Tryz.f98.results.toList=[.cell 2 26, .tmp 3] from rfl];first|refine uRN ?_|exact uRM
    rfl
   |true=>
    rw[c3] at g1
    cases c4:sufB ((s.take (s.length - 3)).drop 6) with
    |false=>
     rw[c4] at g4
     rw[hbad (by rw[hsh,c4];simp only[Bool.and_false,Bool.false_and])]
     refine uR1 (uI @e1 (uI @e2 (uI @b1 (uI @b2 @b47)))) ?_;intro K hK
     refine uH ?_
     refine callF uTS (g3) uTS uTS uTS ?_;refine uS ?_
     try refine uS1 (uI @b1 @b2) ?_
     refine uH ?_
     refine callF uTS (g1) uTS uTS uTS ?_;refine uS ?_
     try refine uS1 (uI @b1 @b2) ?_
     refine uH ?_
     refine callF uTS (g4) uTS uTS uTS ?_;refine uS ?_
     try refine uS1 (uI @b1 @b2) ?_
     refine uH ?_
     refine hK _ ?_;clear hK K
     refine uT ?_
     repeat refine uA ?_
     refine awp_ret ?_;rw[show Tryz.f98.results.toList=[.cell 2 26, .tmp 3] from rfl];first|refine uRN ?_|exact uRM
     rfl
    |true=>
     rw[c4] at g4
     cases c5:(s.drop (s.length - 2)).all digit with
     |false=>
      rw[c5] at g2
      rw[hbad (by rw[hsh,c5];simp only[Bool.and_false,Bool.false_and])]
      refine uR1 (uI @e1 (uI @e2 (uI @b1 (uI @b2 @b47)))) ?_;intro K hK
      refine uH ?_
      refine callF uTS (g3) uTS uTS uTS ?_;refine uS ?_
      try refine uS1 (uI @b1 @b2) ?_
      refine uH ?_
      refine callF uTS (g1) uTS uTS uTS ?_;refine uS ?_
      try refine uS1 (uI @b1 @b2) ?_
      refine uH ?_
      refine callF uTS (g4) uTS uTS uTS ?_;refine uS ?_
      try refine uS1 (uI @b1 @b2) ?_
      refine uH ?_
      refine callF uTS (g2) uTS uTS uTS ?_;refine uS ?_
      try refine uS1 (uI @b1 @b2) ?_
      refine uH ?_
      refine hK _ ?_;clear hK K
      refine uT ?_
      repeat refine uA ?_
      refine awp_ret ?_;rw[show Tryz.f98.results.toList=[.cell 2 26, .tmp 3] from rfl];first|refine uRN ?_|exact uRM
      rfl
     |true=>
      rw[c5] at g2
      have v1:=rvalue_sat ((s.take 6).drop 2) (by rw[List.length_drop,List.length_take];omega) c3
      have v2:=rvalue_sat (s.drop (s.length - 2)) (by rw[List.length_drop];omega) c5
      have hnum:(fltOf s).num=(numL 0 ((s.take 6).drop 2):Nat):=rfl
      rw[hgood (by rw[hsh,c1,c2,c3,c4,c5];rfl),hnum]
      refine uR1 (uI @e1 (uI @e2 (uI @b1 (uI @b2 @b47)))) ?_;intro K hK
      refine uH ?_
      refine callF uTS (g3) uTS uTS uTS ?_;refine uS ?_
      try refine uS1 (uI @b1 @b2) ?_
      refine uH ?_
      refine callF uTS (g1) uTS uTS uTS ?_;refine uS ?_
      try refine uS1 (uI @b1 @b2) ?_
      refine uH ?_
      refine callF uTS (g4) uTS uTS uTS ?_;refine uS ?_
      try refine uS1 (uI @b1 @b2) ?_
      refine uH ?_
      refine callF uTS (g2) uTS uTS uTS ?_;refine uS ?_
      try refine uS1 (uI @b1 @b2) ?_
      refine uH ?_
      refine hK _ ?_;clear hK K
      refine uF ?_
      refine uD1 (uI @b1 @b2) ?_;intro K hK
      refine uH ?_
      refine callF uTS (v1) uTS uTS uTS ?_;refine uS ?_
      try refine uS1 (uI @b1 @b2) ?_
      refine uH ?_
      refine callF uTS (v2) uTS uTS uTS ?_;refine uS ?_
      try refine uS1 (uI @b1 @b2) ?_
      refine uH ?_
      refine hK _ ?_;clear hK K
      refine uA ?_
      refine uW ?_;refine condP _ rfl (fun cz=>?_) (fun cz=>?_)
      ·rw[if_pos cz]
       repeat refine uA ?_
       refine awp_ret ?_;rw[show Tryz.f98.results.toList=[.cell 2 26, .tmp 3] from rfl];first|refine uRN ?_|exact uRM
       rfl
      ·rw[if_neg cz]
       have e5:fltOf s=⟨s.take 2,(numL 0 ((s.take 6).drop 2):Nat),(s.take (s.length - 3)).drop 6,(numL 0 (s.drop (s.length - 2)):Nat)⟩:=rfl
       rw[e5]
       repeat refine uA ?_
       refine awp_ret ?_;rw[show Tryz.f98.results.toList=[.cell 2 26, .tmp 3] from rfl];first|refine uRN ?_|exact uRM
theorem rfparse_sat (s:Bs) (hs:s.length<=1000000):SatG Tryz.prog tab 98 [] [S (strOf s)] [] (.tup [Flt.av (fltParse s).1,I (fltParse s).2]):=by
 by_cases c9:s.length=9
 ·exact rfparse_9 s c9
 by_cases c10:s.length=10
 ·exact rfparse_10 s c10
 have hf:fltShape s=false:=by unfold fltShape;rw[decide_eq_false (by omega)];rfl
 have hp:fltParse s=(F0,3):=by unfold fltParse;rw[hf];rfl
 rw[hp]
 have e1:(decide ¬(s.length:Int)=9)=true:=decide_eq_true (by omega)
 have e2:(decide ¬(s.length:Int)=10)=true:=decide_eq_true (by omega)
 refine uFN Tryz.func98 Tryz.ntmps98 ?_;intro w e X hC
 repeat refine uA ?_
 refine uR1 (uI @e1 @e2) ?_;intro K hK
 refine uH ?_
 refine hK _ ?_;clear hK K
 refine uT ?_
 repeat refine uA ?_
 refine awp_ret ?_;rw[show Tryz.f98.results.toList=[.cell 2 26, .tmp 3] from rfl];first|refine uRN ?_|exact uRM
 rfl
open Go Go.Sym Go.Scr Go.Lib
def someB:List Flaw->Bs
 |[]=>[]
 |f::r=>32::wFault f++someB r
def rlineB (x:Acx):Bs:=
 if x.k=1 then sTick++((if x.lost then 32::sLost else[])++(someB x.mv++someB x.gl))
 else if x.k=2 then sInduct++32::(x.plt.fmt++32::decW x.node)
 else if x.k=3 then sMessage++32::swapB 10 124 x.txt
 else if x.k=4 then sVerdict++32::(decW x.img++32::(if x.clr then sClear else sAlarm))
 else if x.k=5 then revN x.rev.k++32::(x.rev.flt.fmt++(if x.rev.k<=3 then 32::decW x.rev.amt else[]))
 else if x.k=6 then sBreak++32::decW x.node
 else if x.k=7 then sRepair++32::decW x.node
 else if x.k=8 then sLoad++32::(decW x.dev++32::(x.plt.fmt++32::(decW x.node++32::decW x.con)))
 else if x.k=9 then sUnload++32::(decW x.dev++32::(x.plt.fmt++32::decW x.con))
 else if x.k=10 then sPick++32::(x.plt.fmt++32::decW x.node)
 else if x.k=11 then sOffline++32::decW x.dev
 else if x.k=12 then sOnline++32::decW x.dev
 else if x.k=13 then sDepart++32::x.flt.fmt
 else sCrash
theorem join1 (a:Bs):Lib.join [a] [32]=a:=by simp[Lib.join]
theorem join2 (a b:Bs):Lib.join [a,b] [32]=a++32::b:=by rw[join_cons2 _ _ (by simp),join1]
theorem join3 (a b c:Bs):Lib.join [a,b,c] [32]=a++32::(b++32::c):=by rw[join_cons2 _ _ (by simp),join2]
theorem join4 (a b c d:Bs):Lib.join [a,b,c,d] [32]=a++32::(b++32::(c++32::d)):=by rw[join_cons2 _ _ (by simp),join3]
theorem join5 (a b c d e:Bs):Lib.join [a,b,c,d,e] [32]=a++32::(b++32::(c++32::(d++32::e))):=by rw[join_cons2 _ _ (by simp),join4]
theorem join_some (a:Bs):∀l:List Flaw,Lib.join (a::l.map wFault) [32]=a++someB l
 |[]=>by rw[List.map_nil,join1];simp[someB]
 |f::r=>by
  rw[List.map_cons,join_cons2 _ _ (by simp),join_some (wFault f) r]
  simp[someB]
theorem someB_app:∀(a b:List Flaw),someB (a++b)=someB a++someB b
 |[],b=>rfl
 |f::r,b=>by
  show 32::wFault f++someB (r++b)=(32::wFault f++someB r)++someB b
  rw[someB_app r b,List.append_assoc]
theorem rline_eq {x:Acx} (h:plainA x=true):lineS x=some (rlineB x):=by
 have h0:=h
 rw[plainA_line] at h0
 cases hl:lineS x with
 |none=>rw[hl] at h0;cases h0
 |some s=>
  rw[line_eq hl]
  unfold plainA at h
  simp only[Bool.and_eq_true,decide_eq_true_eq] at h
  obtain⟨⟨k1,k2⟩,ho,hb⟩:=h
  congr 1
  unfold rlineB wAct
  have hbad:=act_bad ⟨k1,k2⟩ ho
  rw[hb] at hbad
  by_cases q1:x.k=1
  ·rw[if_pos q1,if_pos q1]
   have hw0:wAct ([],false) x=wFaults 3 6 x.gl (wFaults 1 2 x.mv (if x.lost then wWord (wWord ([],false) sTick) sLost else wWord ([],false) sTick)):=by unfold wAct;rw[if_pos q1]
   rw[hw0] at hbad
   obtain⟨a1,a2,a3⟩:=wFaults_ok hbad
   obtain⟨b1,b2,b3⟩:=wFaults_ok a2
   rw[a3,b3]
   cases x.lost with
   |true=>
    show Lib.join ([sTick,sLost]++x.mv.map wFault++x.gl.map wFault) [32]=_
    rw[List.append_assoc,<-List.map_append]
    show Lib.join (sTick::sLost::(x.mv++x.gl).map wFault) [32]=_
    rw[join_cons2 _ _ (by simp),join_some,someB_app]
    rfl
   |false=>
    show Lib.join ([sTick]++x.mv.map wFault++x.gl.map wFault) [32]=_
    rw[List.append_assoc,<-List.map_append]
    show Lib.join (sTick::(x.mv++x.gl).map wFault) [32]=_
    rw[join_some,someB_app]
    rfl
  rw[if_neg q1,if_neg q1]
  by_cases q2:x.k=2
  ·rw[if_pos q2,if_pos q2]
   exact join3 _ _ _
  rw[if_neg q2,if_neg q2]
  by_cases q3:x.k=3
  ·rw[if_pos q3,if_pos q3]
   exact join2 _ _
  rw[if_neg q3,if_neg q3]
  by_cases q4:x.k=4
  ·rw[if_pos q4,if_pos q4]
   exact join3 _ _ _
  rw[if_neg q4,if_neg q4]
  by_cases q5:x.k=5
  ·rw[if_pos q5,if_pos q5]
   unfold bodyB at hb
   rw[if_neg (by omega),if_neg (by omega),if_pos q5] at hb
   unfold revB at hb
   simp only[Bool.and_eq_true,decide_eq_true_eq,Bool.or_eq_true] at hb
   obtain⟨hr,hf,hn,ha⟩:=hb
   unfold wRev
   rw[if_pos hr]
   by_cases c:x.rev.k<=3
   ·rw[if_pos c,if_neg (by omega)]
    exact join3 _ _ _
   ·rw[if_neg c,if_pos (by omega),List.append_nil]
    exact join2 _ _
  rw[if_neg q5,if_neg q5]
  by_cases q6:x.k=6
  ·rw[if_pos q6,if_pos q6]
   exact join2 _ _
  rw[if_neg q6,if_neg q6]
  by_cases q7:x.k=7
  ·rw[if_pos q7,if_pos q7]
   exact join2 _ _
  rw[if_neg q7,if_neg q7]
  by_cases q8:x.k=8
  ·rw[if_pos q8,if_pos q8]
   exact join5 _ _ _ _ _
  rw[if_neg q8,if_neg q8]
  by_cases q9:x.k=9
  ·rw[if_pos q9,if_pos q9]
   exact join4 _ _ _ _
  rw[if_neg q9,if_neg q9]
  by_cases q10:x.k=10
  ·rw[if_pos q10,if_pos q10]
   exact join3 _ _ _
  rw[if_neg q10,if_neg q10]
  by_cases q11:x.k=11
  ·rw[if_pos q11,if_pos q11]
   exact join2 _ _
  rw[if_neg q11,if_neg q11]
  by_cases q12:x.k=12
  ·rw[if_pos q12,if_pos q12]
   exact join2 _ _
  rw[if_neg q12,if_neg q12]
  by_cases q13:x.k=13
  ·rw[if_pos q13,if_pos q13]
   exact join2 _ _
  rw[if_neg q13,if_neg q13]
  exact join1 _
theorem rline_no {x:Acx} (h:plainA x=false):lineS x=none:=by
 rw[plainA_line] at h
 cases hl:lineS x with
 |none=>rfl
 |some s=>rw[hl] at h;cases h
end Go.Proofs.YtokkbonoplbiaaaGreatDoor
