/- Lemmas towards scriptTexts_card: no conditions of their own beyond those that each one states. -/
import Derived.Test.YtokkbonoplbiaaaGreatDoorA10
set_option linter.all false
set_option linter.unusedSimpArgs false
set_option linter.unusedVariables false
set_option linter.deprecated false
namespace Go.Proofs.YtokkbonoplbiaaaGreatDoor
open Go Go.Sym
open Go.Scr
abbrev SmS (x:Acx):Prop:=x.mv.length<=30/\x.gl.length<=30/\x.txt.length<=500/\x.flt.car.length<=50/\x.flt.suf.length<=50/\x.rev.flt.car.length<=50/\x.rev.flt.suf.length<=50
theorem lsmall_sat (x:Acx) (hx:MxA x):SatG Tryz.prog tab 7 [] [x.av] [] (B (decide (SmS x))):=by
 obtain⟨x1,x2,x3,x4,x5,x6,x7⟩:=hx
 refine uFN Tryz.func7 Tryz.ntmps7 ?_;intro w e X hC
 refine uA ?_
 by_cases c1:x.mv.length<=30
 rotate_left
 ·have e1:=uDf ((x.mv.length:Int)<=30)
  rw[show decide (SmS x)=false from decide_eq_false fun h=>c1 h.1]
  refine uA1 @e1 ?_
  (refine awp_ret (ret1 uRT ?_);try rfl)
 have e1:=uDt ((x.mv.length:Int)<=30)
 by_cases c2:x.gl.length<=30
 rotate_left
 ·have e2:=uDf ((x.gl.length:Int)<=30)
  rw[show decide (SmS x)=false from decide_eq_false fun h=>c2 h.2.1]
  refine uA1 (uI @e1 @e2) ?_
  (refine awp_ret (ret1 uRT ?_);try rfl)
 have e2:=uDt ((x.gl.length:Int)<=30)
 by_cases c3:x.txt.length<=500
 rotate_left
 ·have e3:=uDf ((x.txt.length:Int)<=500)
  rw[show decide (SmS x)=false from decide_eq_false fun h=>c3 h.2.2.1]
  refine uA1 (uI @e1 (uI @e2 @e3)) ?_
  (refine awp_ret (ret1 uRT ?_);try rfl)
 have e3:=uDt ((x.txt.length:Int)<=500)
 by_cases c4:x.flt.car.length<=50
 rotate_left
 ·have e4:=uDf ((x.flt.car.length:Int)<=50)
  rw[show decide (SmS x)=false from decide_eq_false fun h=>c4 h.2.2.2.1]
  refine uA1 (uI @e1 (uI @e2 (uI @e3 @e4))) ?_
  (refine awp_ret (ret1 uRT ?_);try rfl)
 have e4:=uDt ((x.flt.car.length:Int)<=50)
 by_cases c5:x.flt.suf.length<=50
 rotate_left
 ·have e5:=uDf ((x.flt.suf.length:Int)<=50)
  rw[show decide (SmS x)=false from decide_eq_false fun h=>c5 h.2.2.2.2.1]
  refine uA1 (uI @e1 (uI @e2 (uI @e3 (uI @e4 @e5)))) ?_
  (refine awp_ret (ret1 uRT ?_);try rfl)
 have e5:=uDt ((x.flt.suf.length:Int)<=50)
 by_cases c6:x.rev.flt.car.length<=50
 rotate_left
 ·have e6:=uDf ((x.rev.flt.car.length:Int)<=50)
  rw[show decide (SmS x)=false from decide_eq_false fun h=>c6 h.2.2.2.2.2.1]
  refine uA1 (uI @e1 (uI @e2 (uI @e3 (uI @e4 (uI @e5 @e6))))) ?_
  (refine awp_ret (ret1 uRT ?_);try rfl)
 have e6:=uDt ((x.rev.flt.car.length:Int)<=50)
 by_cases c7:x.rev.flt.suf.length<=50
 rotate_left
 ·have e7:=uDf ((x.rev.flt.suf.length:Int)<=50)
  rw[show decide (SmS x)=false from decide_eq_false fun h=>c7 h.2.2.2.2.2.2]
  refine uA1 (uI @e1 (uI @e2 (uI @e3 (uI @e4 (uI @e5 (uI @e6 @e7)))))) ?_
  (refine awp_ret (ret1 uRT ?_);try rfl)
 have e7:=uDt ((x.rev.flt.suf.length:Int)<=50)
 rw[show decide (SmS x)=true from decide_eq_true ⟨c1,c2,c3,c4,c5,c6,c7⟩]
 refine uA1 (uI @e1 (uI @e2 (uI @e3 (uI @e4 (uI @e5 (uI @e6 @e7)))))) ?_
 (refine awp_ret (ret1 uRT ?_);try rfl)
def oddL:List Int:=[-1,0,1,7,999999,1000000]
def sptL:List Bs:=[[124],[10],[32],[127],[0],[120]]
def airL:List Int:=[0,1,999,1000]
def spS (l:List Int) (a:Nat) (x:Acx):Acx×Nat:=
 if gN l (a+1) 12=0 then({x with k:=gN l (a+2) 16 - 1},a+3)
 else if gN l (a+1) 12=1 then({x with node:=gP l a oddL},a+2)
 else if gN l (a+1) 12=2 then({x with img:=gP l a oddL},a+2)
 else if gN l (a+1) 12=3 then({x with dev:=gP l a oddL},a+2)
 else if gN l (a+1) 12=4 then({x with con:=gP l a oddL},a+2)
 else if gN l (a+1) 12=5 then({x with txt:=x.txt++gT l (a+2) sptL},a+3)
 else if gN l (a+1) 12=6 then({x with clr:=!x.clr},a+2)
 else if gN l (a+1) 12=7 then({x with lost:=!x.lost},a+2)
 else if gN l (a+1) 12=8 then({x with mv:=x.mv++[⟨gN l (a+2) 8,gP l a oddL,gN l (a+3) 3⟩]},a+4)
 else if gN l (a+1) 12=9 then({x with gl:=x.gl++[⟨gN l (a+2) 8,gN l (a+3) 3,gP l a oddL⟩]},a+4)
 else if gN l (a+1) 12=10 then({x with rev:={x.rev with amt:=gP l a oddL}},a+2)
 else({x with plt:={x.plt with a:=gP l (a+2) airL}},a+3)
theorem spt_len (l:List Int) (a:Nat):(gT l a sptL).length<=1:=by
 unfold gT
 have hb:=gN_lt (l:=l) (a:=a) (n:=sptL.length) (by decide)
 have h6:(sptL.length:Int)=6:=rfl
 generalize gN l a sptL.length=m at*
 have:m=0\/m=1\/m=2\/m=3\/m=4\/m=5:=by omega
 rcases this with rfl|rfl|rfl|rfl|rfl|rfl<;>decide
theorem sp_0 (l:List Int) (a:Nat) (x:Acx) (hf:Fits l) (hx:SmA x) (hc:gN l (a+1) 12=0):SatG Tryz.prog tab 11 (srcC l a) [.ptO 0 0 0 0 0,x.av] (srcC l (spS l a x).2) (spS l a x).1.av:=by
 have h1:=gP_sat l a oddL hf (by decide) (by decide)
 have h2:=gN_sat l (a+1) 12 hf (by decide)
 obtain⟨x1,x2,x3,x4,x5,x6,x7⟩:=hx
 have e0:=uDt (gN l (a+1) 12=0)
 have e1:=uDf (gN l (a+1) 12=1)
 have e2:=uDf (gN l (a+1) 12=2)
 have e3:=uDf (gN l (a+1) 12=3)
 have e4:=uDf (gN l (a+1) 12=4)
 have e5:=uDf (gN l (a+1) 12=5)
 have e6:=uDf (gN l (a+1) 12=6)
 have e7:=uDf (gN l (a+1) 12=7)
 have e8:=uDf (gN l (a+1) 12=8)
 have e9:=uDf (gN l (a+1) 12=9)
 have e10:=uDf (gN l (a+1) 12=10)
 have h3:=gN_sat l (a+2) 16 hf (by decide)
 have b3:=gN_lt (l:=l) (a:=a+2) (n:=16) (by decide)
 unfold spS
 rw[if_pos hc]
 generalize gP l a oddL=od at*
 generalize gN l (a+1) 12=c at*
 generalize gN l (a+2) 16=n3 at*
 refine uFN Tryz.func11 Tryz.ntmps11 ?_;intro w e X hC
 repeat refine uA ?_
 refine uR ?_;intro K hK
 refine callL rfl (h1) uTS uTS uTS uTS uTS ?_;refine uS ?_
 refine hK _ ?_;clear hK K
 refine uR ?_;intro K hK
 refine callL rfl (h2) uTS uTS uTS uTS uTS ?_;refine uS ?_
 refine hK _ ?_;clear hK K
 repeat first|refine uC ?_|refine uA1 @e0 ?_
 refine uR ?_;intro K hK
 refine callL rfl (h3) uTS uTS uTS uTS uTS ?_;refine uS ?_
 refine uH ?_
 refine hK _ ?_;clear hK K
 repeat refine uA ?_
 refine awp_ret ?_;rw[show Tryz.f11.results.toList=[.cell 4 30] from rfl];(refine(retBs uRG rfl uTC uTC ?_ ?_);all_goals (first|refine uSC ?_|exact uXC|skip))
 try rfl
theorem sp_1 (l:List Int) (a:Nat) (x:Acx) (hf:Fits l) (hx:SmA x) (hc:gN l (a+1) 12=1):SatG Tryz.prog tab 11 (srcC l a) [.ptO 0 0 0 0 0,x.av] (srcC l (spS l a x).2) (spS l a x).1.av:=by
 have h1:=gP_sat l a oddL hf (by decide) (by decide)
 have h2:=gN_sat l (a+1) 12 hf (by decide)
 obtain⟨x1,x2,x3,x4,x5,x6,x7⟩:=hx
 have e0:=uDf (gN l (a+1) 12=0)
 have e1:=uDt (gN l (a+1) 12=1)
 have e2:=uDf (gN l (a+1) 12=2)
 have e3:=uDf (gN l (a+1) 12=3)
 have e4:=uDf (gN l (a+1) 12=4)
 have e5:=uDf (gN l (a+1) 12=5)
 have e6:=uDf (gN l (a+1) 12=6)
 have e7:=uDf (gN l (a+1) 12=7)
 have e8:=uDf (gN l (a+1) 12=8)
 have e9:=uDf (gN l (a+1) 12=9)
 have e10:=uDf (gN l (a+1) 12=10)
 unfold spS
 rw[if_neg (by omega:¬gN l (a+1) 12=0),if_pos hc]
 generalize gP l a oddL=od at*
 generalize gN l (a+1) 12=c at*
 refine uFN Tryz.func11 Tryz.ntmps11 ?_;intro w e X hC
 repeat refine uA ?_
 refine uR ?_;intro K hK
 refine callL rfl (h1) uTS uTS uTS uTS uTS ?_;refine uS ?_
 refine hK _ ?_;clear hK K
 refine uR ?_;intro K hK
 refine callL rfl (h2) uTS uTS uTS uTS uTS ?_;refine uS ?_
 refine hK _ ?_;clear hK K
 repeat first|refine uC ?_|refine uA1 (uI @e0 @e1) ?_
 repeat refine uA ?_
 refine awp_ret ?_;rw[show Tryz.f11.results.toList=[.cell 4 30] from rfl];(refine(retBs uRG rfl uTC uTC ?_ ?_);all_goals (first|refine uSC ?_|exact uXC|skip))
 try rfl
theorem sp_2 (l:List Int) (a:Nat) (x:Acx) (hf:Fits l) (hx:SmA x) (hc:gN l (a+1) 12=2):SatG Tryz.prog tab 11 (srcC l a) [.ptO 0 0 0 0 0,x.av] (srcC l (spS l a x).2) (spS l a x).1.av:=by
 have h1:=gP_sat l a oddL hf (by decide) (by decide)
 have h2:=gN_sat l (a+1) 12 hf (by decide)
 obtain⟨x1,x2,x3,x4,x5,x6,x7⟩:=hx
 have e0:=uDf (gN l (a+1) 12=0)
 have e1:=uDf (gN l (a+1) 12=1)
 have e2:=uDt (gN l (a+1) 12=2)
 have e3:=uDf (gN l (a+1) 12=3)
 have e4:=uDf (gN l (a+1) 12=4)
 have e5:=uDf (gN l (a+1) 12=5)
 have e6:=uDf (gN l (a+1) 12=6)
 have e7:=uDf (gN l (a+1) 12=7)
 have e8:=uDf (gN l (a+1) 12=8)
 have e9:=uDf (gN l (a+1) 12=9)
 have e10:=uDf (gN l (a+1) 12=10)
 unfold spS
 rw[if_neg (by omega:¬gN l (a+1) 12=0),if_neg (by omega:¬gN l (a+1) 12=1),if_pos hc]
 generalize gP l a oddL=od at*
 generalize gN l (a+1) 12=c at*
 refine uFN Tryz.func11 Tryz.ntmps11 ?_;intro w e X hC
 repeat refine uA ?_
 refine uR ?_;intro K hK
 refine callL rfl (h1) uTS uTS uTS uTS uTS ?_;refine uS ?_
 refine hK _ ?_;clear hK K
 refine uR ?_;intro K hK
 refine callL rfl (h2) uTS uTS uTS uTS uTS ?_;refine uS ?_
 refine hK _ ?_;clear hK K
 repeat first|refine uC ?_|refine uA1 (uI @e0 (uI @e1 @e2)) ?_
 repeat refine uA ?_
 refine awp_ret ?_;rw[show Tryz.f11.results.toList=[.cell 4 30] from rfl];(refine(retBs uRG rfl uTC uTC ?_ ?_);all_goals (first|refine uSC ?_|exact uXC|skip))
 try rfl
theorem sp_3 (l:List Int) (a:Nat) (x:Acx) (hf:Fits l) (hx:SmA x) (hc:gN l (a+1) 12=3):SatG Tryz.prog tab 11 (srcC l a) [.ptO 0 0 0 0 0,x.av] (srcC l (spS l a x).2) (spS l a x).1.av:=by
 have h1:=gP_sat l a oddL hf (by decide) (by decide)
 have h2:=gN_sat l (a+1) 12 hf (by decide)
 obtain⟨x1,x2,x3,x4,x5,x6,x7⟩:=hx
 have e0:=uDf (gN l (a+1) 12=0)
 have e1:=uDf (gN l (a+1) 12=1)
 have e2:=uDf (gN l (a+1) 12=2)
 have e3:=uDt (gN l (a+1) 12=3)
 have e4:=uDf (gN l (a+1) 12=4)
 have e5:=uDf (gN l (a+1) 12=5)
 have e6:=uDf (gN l (a+1) 12=6)
 have e7:=uDf (gN l (a+1) 12=7)
 have e8:=uDf (gN l (a+1) 12=8)
 have e9:=uDf (gN l (a+1) 12=9)
 have e10:=uDf (gN l (a+1) 12=10)
 unfold spS
 rw[if_neg (by omega:¬gN l (a+1) 12=0),if_neg (by omega:¬gN l (a+1) 12=1),if_neg (by omega:¬gN l (a+1) 12=2),if_pos hc]
 generalize gP l a oddL=od at*
 generalize gN l (a+1) 12=c at*
 refine uFN Tryz.func11 Tryz.ntmps11 ?_;intro w e X hC
 repeat refine uA ?_
 refine uR ?_;intro K hK
 refine callL rfl (h1) uTS uTS uTS uTS uTS ?_;refine uS ?_
 refine hK _ ?_;clear hK K
 refine uR ?_;intro K hK
 refine callL rfl (h2) uTS uTS uTS uTS uTS ?_;refine uS ?_
 refine hK _ ?_;clear hK K
 repeat first|refine uC ?_|refine uA1 (uI @e0 (uI @e1 (uI @e2 @e3))) ?_
 repeat refine uA ?_
 refine awp_ret ?_;rw[show Tryz.f11.results.toList=[.cell 4 30] from rfl];(refine(retBs uRG rfl uTC uTC ?_ ?_);all_goals (first|refine uSC ?_|exact uXC|skip))
 try rfl
theorem sp_4 (l:List Int) (a:Nat) (x:Acx) (hf:Fits l) (hx:SmA x) (hc:gN l (a+1) 12=4):SatG Tryz.prog tab 11 (srcC l a) [.ptO 0 0 0 0 0,x.av] (srcC l (spS l a x).2) (spS l a x).1.av:=by
 have h1:=gP_sat l a oddL hf (by decide) (by decide)
 have h2:=gN_sat l (a+1) 12 hf (by decide)
 obtain⟨x1,x2,x3,x4,x5,x6,x7⟩:=hx
 have e0:=uDf (gN l (a+1) 12=0)
 have e1:=uDf (gN l (a+1) 12=1)
 have e2:=uDf (gN l (a+1) 12=2)
 have e3:=uDf (gN l (a+1) 12=3)
 have e4:=uDt (gN l (a+1) 12=4)
 have e5:=uDf (gN l (a+1) 12=5)
 have e6:=uDf (gN l (a+1) 12=6)
 have e7:=uDf (gN l (a+1) 12=7)
 have e8:=uDf (gN l (a+1) 12=8)
 have e9:=uDf (gN l (a+1) 12=9)
 have e10:=uDf (gN l (a+1) 12=10)
 unfold spS
 rw[if_neg (by omega:¬gN l (a+1) 12=0),if_neg (by omega:¬gN l (a+1) 12=1),if_neg (by omega:¬gN l (a+1) 12=2),if_neg (by omega:¬gN l (a+1) 12=3),if_pos hc]
 generalize gP l a oddL=od at*
 generalize gN l (a+1) 12=c at*
 refine uFN Tryz.func11 Tryz.ntmps11 ?_;intro w e X hC
 repeat refine uA ?_
 refine uR ?_;intro K hK
 refine callL rfl (h1) uTS uTS uTS uTS uTS ?_;refine uS ?_
 refine hK _ ?_;clear hK K
 refine uR ?_;intro K hK
 refine callL rfl (h2) uTS uTS uTS uTS uTS ?_;refine uS ?_
 refine hK _ ?_;clear hK K
 repeat first|refine uC ?_|refine uA1 (uI @e0 (uI @e1 (uI @e2 (uI @e3 @e4)))) ?_
 repeat refine uA ?_
 refine awp_ret ?_;rw[show Tryz.f11.results.toList=[.cell 4 30] from rfl];(refine(retBs uRG rfl uTC uTC ?_ ?_);all_goals (first|refine uSC ?_|exact uXC|skip))
 try rfl
theorem sp_5 (l:List Int) (a:Nat) (x:Acx) (hf:Fits l) (hx:SmA x) (hc:gN l (a+1) 12=5):SatG Tryz.prog tab 11 (srcC l a) [.ptO 0 0 0 0 0,x.av] (srcC l (spS l a x).2) (spS l a x).1.av:=by
 have h1:=gP_sat l a oddL hf (by decide) (by decide)
 have h2:=gN_sat l (a+1) 12 hf (by decide)
 obtain⟨x1,x2,x3,x4,x5,x6,x7⟩:=hx
 have e0:=uDf (gN l (a+1) 12=0)
 have e1:=uDf (gN l (a+1) 12=1)
 have e2:=uDf (gN l (a+1) 12=2)
 have e3:=uDf (gN l (a+1) 12=3)
 have e4:=uDf (gN l (a+1) 12=4)
 have e5:=uDt (gN l (a+1) 12=5)
 have e6:=uDf (gN l (a+1) 12=6)
 have e7:=uDf (gN l (a+1) 12=7)
 have e8:=uDf (gN l (a+1) 12=8)
 have e9:=uDf (gN l (a+1) 12=9)
 have e10:=uDf (gN l (a+1) 12=10)
 have h3:=gT_sat l (a+2) sptL hf (by decide) (by decide)
 have b3:(gT l (a+2) sptL).length<=1:=spt_len _ _
 unfold spS
 rw[if_neg (by omega:¬gN l (a+1) 12=0),if_neg (by omega:¬gN l (a+1) 12=1),if_neg (by omega:¬gN l (a+1) 12=2),if_neg (by omega:¬gN l (a+1) 12=3),if_neg (by omega:¬gN l (a+1) 12=4),if_pos hc]
 generalize gP l a oddL=od at*
 generalize gN l (a+1) 12=c at*
 generalize gT l (a+2) sptL=n3 at*
 refine uFN Tryz.func11 Tryz.ntmps11 ?_;intro w e X hC
 repeat refine uA ?_
 refine uR ?_;intro K hK
 refine callL rfl (h1) uTS uTS uTS uTS uTS ?_;refine uS ?_
 refine hK _ ?_;clear hK K
 refine uR ?_;intro K hK
 refine callL rfl (h2) uTS uTS uTS uTS uTS ?_;refine uS ?_
 refine hK _ ?_;clear hK K
 repeat first|refine uC ?_|refine uA1 (uI @e0 (uI @e1 (uI @e2 (uI @e3 (uI @e4 @e5))))) ?_
 refine uD ?_;intro K hK
 refine callL rfl (h3) uTS uTS uTS uTS uTS ?_;refine uS ?_
 try refine uS ?_
 refine uH ?_
 refine hK _ ?_;clear hK K
 repeat refine uA ?_
 refine awp_ret ?_;rw[show Tryz.f11.results.toList=[.cell 4 30] from rfl];(refine(retBs uRG rfl uTC uTC ?_ ?_);all_goals (first|refine uSC ?_|exact uXC|skip))
 try rfl
theorem sp_6 (l:List Int) (a:Nat) (x:Acx) (hf:Fits l) (hx:SmA x) (hc:gN l (a+1) 12=6):SatG Tryz.prog tab 11 (srcC l a) [.ptO 0 0 0 0 0,x.av] (srcC l (spS l a x).2) (spS l a x).1.av:=by
 have h1:=gP_sat l a oddL hf (by decide) (by decide)
 have h2:=gN_sat l (a+1) 12 hf (by decide)
 obtain⟨x1,x2,x3,x4,x5,x6,x7⟩:=hx
 have e0:=uDf (gN l (a+1) 12=0)
 have e1:=uDf (gN l (a+1) 12=1)
 have e2:=uDf (gN l (a+1) 12=2)
 have e3:=uDf (gN l (a+1) 12=3)
 have e4:=uDf (gN l (a+1) 12=4)
 have e5:=uDf (gN l (a+1) 12=5)
 have e6:=uDt (gN l (a+1) 12=6)
 have e7:=uDf (gN l (a+1) 12=7)
 have e8:=uDf (gN l (a+1) 12=8)
 have e9:=uDf (gN l (a+1) 12=9)
 have e10:=uDf (gN l (a+1) 12=10)
 unfold spS
 rw[if_neg (by omega:¬gN l (a+1) 12=0),if_neg (by omega:¬gN l (a+1) 12=1),if_neg (by omega:¬gN l (a+1) 12=2),if_neg (by omega:¬gN l (a+1) 12=3),if_neg (by omega:¬gN l (a+1) 12=4),if_neg (by omega:¬gN l (a+1) 12=5),if_pos hc]
 generalize gP l a oddL=od at*
 generalize gN l (a+1) 12=c at*
 refine uFN Tryz.func11 Tryz.ntmps11 ?_;intro w e X hC
 repeat refine uA ?_
 refine uR ?_;intro K hK
 refine callL rfl (h1) uTS uTS uTS uTS uTS ?_;refine uS ?_
 refine hK _ ?_;clear hK K
 refine uR ?_;intro K hK
 refine callL rfl (h2) uTS uTS uTS uTS uTS ?_;refine uS ?_
 refine hK _ ?_;clear hK K
 repeat first|refine uC ?_|refine uA1 (uI @e0 (uI @e1 (uI @e2 (uI @e3 (uI @e4 (uI @e5 @e6)))))) ?_
 repeat refine uA ?_
 refine awp_ret ?_;rw[show Tryz.f11.results.toList=[.cell 4 30] from rfl];(refine(retBs uRG rfl uTC uTC ?_ ?_);all_goals (first|refine uSC ?_|exact uXC|skip))
 try rfl
theorem sp_7 (l:List Int) (a:Nat) (x:Acx) (hf:Fits l) (hx:SmA x) (hc:gN l (a+1) 12=7):SatG Tryz.prog tab 11 (srcC l a) [.ptO 0 0 0 0 0,x.av] (srcC l (spS l a x).2) (spS l a x).1.av:=by
 have h1:=gP_sat l a oddL hf (by decide) (by decide)
 have h2:=gN_sat l (a+1) 12 hf (by decide)
 obtain⟨x1,x2,x3,x4,x5,x6,x7⟩:=hx
 have e0:=uDf (gN l (a+1) 12=0)
 have e1:=uDf (gN l (a+1) 12=1)
 have e2:=uDf (gN l (a+1) 12=2)
 have e3:=uDf (gN l (a+1) 12=3)
 have e4:=uDf (gN l (a+1) 12=4)
 have e5:=uDf (gN l (a+1) 12=5)
 have e6:=uDf (gN l (a+1) 12=6)
 have e7:=uDt (gN l (a+1) 12=7)
 have e8:=uDf (gN l (a+1) 12=8)
 have e9:=uDf (gN l (a+1) 12=9)
 have e10:=uDf (gN l (a+1) 12=10)
 unfold spS
 rw[if_neg (by omega:¬gN l (a+1) 12=0),if_neg (by omega:¬gN l (a+1) 12=1),if_neg (by omega:¬gN l (a+1) 12=2),if_neg (by omega:¬gN l (a+1) 12=3),if_neg (by omega:¬gN l (a+1) 12=4),if_neg (by omega:¬gN l (a+1) 12=5),if_neg (by omega:¬gN l (a+1) 12=6),if_pos hc]
 generalize gP l a oddL=od at*
 generalize gN l (a+1) 12=c at*
 refine uFN Tryz.func11 Tryz.ntmps11 ?_;intro w e X hC
 repeat refine uA ?_
 refine uR ?_;intro K hK
 refine callL rfl (h1) uTS uTS uTS uTS uTS ?_;refine uS ?_
 refine hK _ ?_;clear hK K
 refine uR ?_;intro K hK
 refine callL rfl (h2) uTS uTS uTS uTS uTS ?_;refine uS ?_
 refine hK _ ?_;clear hK K
 repeat first|refine uC ?_|refine uA1 (uI @e0 (uI @e1 (uI @e2 (uI @e3 (uI @e4 (uI @e5 (uI @e6 @e7))))))) ?_
 repeat refine uA ?_
 refine awp_ret ?_;rw[show Tryz.f11.results.toList=[.cell 4 30] from rfl];(refine(retBs uRG rfl uTC uTC ?_ ?_);all_goals (first|refine uSC ?_|exact uXC|skip))
 try rfl
theorem sp_8 (l:List Int) (a:Nat) (x:Acx) (hf:Fits l) (hx:SmA x) (hc:gN l (a+1) 12=8):SatG Tryz.prog tab 11 (srcC l a) [.ptO 0 0 0 0 0,x.av] (srcC l (spS l a x).2) (spS l a x).1.av:=by
 have h1:=gP_sat l a oddL hf (by decide) (by decide)
 have h2:=gN_sat l (a+1) 12 hf (by decide)
 obtain⟨x1,x2,x3,x4,x5,x6,x7⟩:=hx
 have e0:=uDf (gN l (a+1) 12=0)
 have e1:=uDf (gN l (a+1) 12=1)
 have e2:=uDf (gN l (a+1) 12=2)
 have e3:=uDf (gN l (a+1) 12=3)
 have e4:=uDf (gN l (a+1) 12=4)
 have e5:=uDf (gN l (a+1) 12=5)
 have e6:=uDf (gN l (a+1) 12=6)
 have e7:=uDf (gN l (a+1) 12=7)
 have e8:=uDt (gN l (a+1) 12=8)
 have e9:=uDf (gN l (a+1) 12=9)
 have e10:=uDf (gN l (a+1) 12=10)
 have h3:=gN_sat l (a+2) 8 hf (by decide)
 have h4:=gN_sat l (a+3) 3 hf (by decide)
 unfold spS
 rw[if_neg (by omega:¬gN l (a+1) 12=0),if_neg (by omega:¬gN l (a+1) 12=1),if_neg (by omega:¬gN l (a+1) 12=2),if_neg (by omega:¬gN l (a+1) 12=3),if_neg (by omega:¬gN l (a+1) 12=4),if_neg (by omega:¬gN l (a+1) 12=5),if_neg (by omega:¬gN l (a+1) 12=6),if_neg (by omega:¬gN l (a+1) 12=7),if_pos hc]
 generalize gP l a oddL=od at*
 generalize gN l (a+1) 12=c at*
 generalize gN l (a+2) 8=n3 at*
 generalize gN l (a+3) 3=n4 at*
 have hap:flaws x.mv++[AV.agg [I n3,I od,I n4]]=flaws (x.mv++[⟨n3,od,n4⟩]):=by simp[flaws]
 refine uFN Tryz.func11 Tryz.ntmps11 ?_;intro w e X hC
 repeat refine uA ?_
 refine uR ?_;intro K hK
 refine callL rfl (h1) uTS uTS uTS uTS uTS ?_;refine uS ?_
 refine hK _ ?_;clear hK K
 refine uR ?_;intro K hK
 refine callL rfl (h2) uTS uTS uTS uTS uTS ?_;refine uS ?_
 refine hK _ ?_;clear hK K
 repeat first|refine uC ?_|refine uA1 (uI @e0 (uI @e1 (uI @e2 (uI @e3 (uI @e4 (uI @e5 (uI @e6 (uI @e7 @e8)))))))) ?_
 refine uR ?_;intro K hK
 refine uH ?_
 refine callL rfl (h3) uTS uTS uTS uTS uTS ?_;refine uS ?_
 try refine uS ?_
 refine uH ?_
 refine callL rfl (h4) uTS uTS uTS uTS uTS ?_;refine uS ?_
 try refine uS1 @hap ?_
 refine uH ?_
 refine hK _ ?_;clear hK K
 repeat refine uA ?_
 refine awp_ret ?_;rw[show Tryz.f11.results.toList=[.cell 4 30] from rfl];(refine(retBs uRG rfl uTC uTC ?_ ?_);all_goals (first|refine uSC ?_|exact uXC|skip))
 try rfl
theorem sp_9 (l:List Int) (a:Nat) (x:Acx) (hf:Fits l) (hx:SmA x) (hc:gN l (a+1) 12=9):SatG Tryz.prog tab 11 (srcC l a) [.ptO 0 0 0 0 0,x.av] (srcC l (spS l a x).2) (spS l a x).1.av:=by
 have h1:=gP_sat l a oddL hf (by decide) (by decide)
 have h2:=gN_sat l (a+1) 12 hf (by decide)
 obtain⟨x1,x2,x3,x4,x5,x6,x7⟩:=hx
 have e0:=uDf (gN l (a+1) 12=0)
 have e1:=uDf (gN l (a+1) 12=1)
 have e2:=uDf (gN l (a+1) 12=2)
 have e3:=uDf (gN l (a+1) 12=3)
 have e4:=uDf (gN l (a+1) 12=4)
 have e5:=uDf (gN l (a+1) 12=5)
 have e6:=uDf (gN l (a+1) 12=6)
 have e7:=uDf (gN l (a+1) 12=7)
 have e8:=uDf (gN l (a+1) 12=8)
 have e9:=uDt (gN l (a+1) 12=9)
 have e10:=uDf (gN l (a+1) 12=10)
 have h3:=gN_sat l (a+2) 8 hf (by decide)
 have h4:=gN_sat l (a+3) 3 hf (by decide)
 unfold spS
 rw[if_neg (by omega:¬gN l (a+1) 12=0),if_neg (by omega:¬gN l (a+1) 12=1),if_neg (by omega:¬gN l (a+1) 12=2),if_neg (by omega:¬gN l (a+1) 12=3),if_neg (by omega:¬gN l (a+1) 12=4),if_neg (by omega:¬gN l (a+1) 12=5),if_neg (by omega:¬gN l (a+1) 12=6),if_neg (by omega:¬gN l (a+1) 12=7),if_neg (by omega:¬gN l (a+1) 12=8),if_pos hc]
 generalize gP l a oddL=od at*
 generalize gN l (a+1) 12=c at*
 generalize gN l (a+2) 8=n3 at*
 generalize gN l (a+3) 3=n4 at*
 have hap:flaws x.gl++[AV.agg [I n3,I n4,I od]]=flaws (x.gl++[⟨n3,n4,od⟩]):=by simp[flaws]
 refine uFN Tryz.func11 Tryz.ntmps11 ?_;intro w e X hC
 repeat refine uA ?_
 refine uR ?_;intro K hK
 refine callL rfl (h1) uTS uTS uTS uTS uTS ?_;refine uS ?_
 refine hK _ ?_;clear hK K
 refine uR ?_;intro K hK
 refine callL rfl (h2) uTS uTS uTS uTS uTS ?_;refine uS ?_
 refine hK _ ?_;clear hK K
 repeat first|refine uC ?_|refine uA1 (uI @e0 (uI @e1 (uI @e2 (uI @e3 (uI @e4 (uI @e5 (uI @e6 (uI @e7 (uI @e8 @e9))))))))) ?_
 refine uR ?_;intro K hK
 refine uH ?_
 refine callL rfl (h3) uTS uTS uTS uTS uTS ?_;refine uS ?_
 try refine uS ?_
 refine uH ?_
 refine callL rfl (h4) uTS uTS uTS uTS uTS ?_;refine uS ?_
 try refine uS1 @hap ?_
 refine uH ?_
 refine hK _ ?_;clear hK K
 repeat refine uA ?_
 refine awp_ret ?_;rw[show Tryz.f11.results.toList=[.cell 4 30] from rfl];(refine(retBs uRG rfl uTC uTC ?_ ?_);all_goals (first|refine uSC ?_|exact uXC|skip))
 try rfl
theorem sp_10 (l:List Int) (a:Nat) (x:Acx) (hf:Fits l) (hx:SmA x) (hc:gN l (a+1) 12=10):SatG Tryz.prog tab 11 (srcC l a) [.ptO 0 0 0 0 0,x.av] (srcC l (spS l a x).2) (spS l a x).1.av:=by
 have h1:=gP_sat l a oddL hf (by decide) (by decide)
 have h2:=gN_sat l (a+1) 12 hf (by decide)
 obtain⟨x1,x2,x3,x4,x5,x6,x7⟩:=hx
 have e0:=uDf (gN l (a+1) 12=0)
 have e1:=uDf (gN l (a+1) 12=1)
 have e2:=uDf (gN l (a+1) 12=2)
 have e3:=uDf (gN l (a+1) 12=3)
 have e4:=uDf (gN l (a+1) 12=4)
 have e5:=uDf (gN l (a+1) 12=5)
 have e6:=uDf (gN l (a+1) 12=6)
 have e7:=uDf (gN l (a+1) 12=7)
 have e8:=uDf (gN l (a+1) 12=8)
 have e9:=uDf (gN l (a+1) 12=9)
 have e10:=uDt (gN l (a+1) 12=10)
 unfold spS
 rw[if_neg (by omega:¬gN l (a+1) 12=0),if_neg (by omega:¬gN l (a+1) 12=1),if_neg (by omega:¬gN l (a+1) 12=2),if_neg (by omega:¬gN l (a+1) 12=3),if_neg (by omega:¬gN l (a+1) 12=4),if_neg (by omega:¬gN l (a+1) 12=5),if_neg (by omega:¬gN l (a+1) 12=6),if_neg (by omega:¬gN l (a+1) 12=7),if_neg (by omega:¬gN l (a+1) 12=8),if_neg (by omega:¬gN l (a+1) 12=9),if_pos hc]
 generalize gP l a oddL=od at*
 generalize gN l (a+1) 12=c at*
 refine uFN Tryz.func11 Tryz.ntmps11 ?_;intro w e X hC
 repeat refine uA ?_
 refine uR ?_;intro K hK
 refine callL rfl (h1) uTS uTS uTS uTS uTS ?_;refine uS ?_
 refine hK _ ?_;clear hK K
 refine uR ?_;intro K hK
 refine callL rfl (h2) uTS uTS uTS uTS uTS ?_;refine uS ?_
 refine hK _ ?_;clear hK K
 repeat first|refine uC ?_|refine uA1 (uI @e0 (uI @e1 (uI @e2 (uI @e3 (uI @e4 (uI @e5 (uI @e6 (uI @e7 (uI @e8 (uI @e9 @e10)))))))))) ?_
 repeat refine uA ?_
 refine awp_ret ?_;rw[show Tryz.f11.results.toList=[.cell 4 30] from rfl];(refine(retBs uRG rfl uTC uTC ?_ ?_);all_goals (first|refine uSC ?_|exact uXC|skip))
 try rfl
theorem sp_11 (l:List Int) (a:Nat) (x:Acx) (hf:Fits l) (hx:SmA x) (hc:11<=gN l (a+1) 12):SatG Tryz.prog tab 11 (srcC l a) [.ptO 0 0 0 0 0,x.av] (srcC l (spS l a x).2) (spS l a x).1.av:=by
 have h1:=gP_sat l a oddL hf (by decide) (by decide)
 have h2:=gN_sat l (a+1) 12 hf (by decide)
 obtain⟨x1,x2,x3,x4,x5,x6,x7⟩:=hx
 have e0:=uDf (gN l (a+1) 12=0)
 have e1:=uDf (gN l (a+1) 12=1)
 have e2:=uDf (gN l (a+1) 12=2)
 have e3:=uDf (gN l (a+1) 12=3)
 have e4:=uDf (gN l (a+1) 12=4)
 have e5:=uDf (gN l (a+1) 12=5)
 have e6:=uDf (gN l (a+1) 12=6)
 have e7:=uDf (gN l (a+1) 12=7)
 have e8:=uDf (gN l (a+1) 12=8)
 have e9:=uDf (gN l (a+1) 12=9)
 have e10:=uDf (gN l (a+1) 12=10)
 have h3:=gP_sat l (a+2) airL hf (by decide) (by decide)
 unfold spS
 rw[if_neg (by omega:¬gN l (a+1) 12=0),if_neg (by omega:¬gN l (a+1) 12=1),if_neg (by omega:¬gN l (a+1) 12=2),if_neg (by omega:¬gN l (a+1) 12=3),if_neg (by omega:¬gN l (a+1) 12=4),if_neg (by omega:¬gN l (a+1) 12=5),if_neg (by omega:¬gN l (a+1) 12=6),if_neg (by omega:¬gN l (a+1) 12=7),if_neg (by omega:¬gN l (a+1) 12=8),if_neg (by omega:¬gN l (a+1) 12=9),if_neg (by omega:¬gN l (a+1) 12=10)]
 generalize gP l a oddL=od at*
 generalize gN l (a+1) 12=c at*
 generalize gP l (a+2) airL=n3 at*
 refine uFN Tryz.func11 Tryz.ntmps11 ?_;intro w e X hC
 repeat refine uA ?_
 refine uR ?_;intro K hK
 refine callL rfl (h1) uTS uTS uTS uTS uTS ?_;refine uS ?_
 refine hK _ ?_;clear hK K
 refine uR ?_;intro K hK
 refine callL rfl (h2) uTS uTS uTS uTS uTS ?_;refine uS ?_
 refine hK _ ?_;clear hK K
 repeat first|refine uC ?_|refine uA1 (uI @e0 (uI @e1 (uI @e2 (uI @e3 (uI @e4 (uI @e5 (uI @e6 (uI @e7 (uI @e8 (uI @e9 @e10)))))))))) ?_
 refine uR ?_;intro K hK
 refine callL rfl (h3) uTS uTS uTS uTS uTS ?_;refine uS ?_
 refine uH ?_
 refine hK _ ?_;clear hK K
 repeat refine uA ?_
 refine awp_ret ?_;rw[show Tryz.f11.results.toList=[.cell 4 30] from rfl];(refine(retBs uRG rfl uTC uTC ?_ ?_);all_goals (first|refine uSC ?_|exact uXC|skip))
 try rfl
theorem spoilt_sat (l:List Int) (a:Nat) (x:Acx) (hf:Fits l) (hx:SmA x):SatG Tryz.prog tab 11 (srcC l a) [.ptO 0 0 0 0 0,x.av] (srcC l (spS l a x).2) (spS l a x).1.av:=by
 have b:=gN_lt (l:=l) (a:=a+1) (n:=12) (by decide)
 by_cases c0:gN l (a+1) 12=0
 ·exact sp_0 l a x hf hx c0
 by_cases c1:gN l (a+1) 12=1
 ·exact sp_1 l a x hf hx c1
 by_cases c2:gN l (a+1) 12=2
 ·exact sp_2 l a x hf hx c2
 by_cases c3:gN l (a+1) 12=3
 ·exact sp_3 l a x hf hx c3
 by_cases c4:gN l (a+1) 12=4
 ·exact sp_4 l a x hf hx c4
 by_cases c5:gN l (a+1) 12=5
 ·exact sp_5 l a x hf hx c5
 by_cases c6:gN l (a+1) 12=6
 ·exact sp_6 l a x hf hx c6
 by_cases c7:gN l (a+1) 12=7
 ·exact sp_7 l a x hf hx c7
 by_cases c8:gN l (a+1) 12=8
 ·exact sp_8 l a x hf hx c8
 by_cases c9:gN l (a+1) 12=9
 ·exact sp_9 l a x hf hx c9
 by_cases c10:gN l (a+1) 12=10
 ·exact sp_10 l a x hf hx c10
 exact sp_11 l a x hf hx (by omega)
open Go.Scr
theorem cut2_fits {l:List Int} (hr:∀x∈l,I64 x):Fits (cut2 l):=⟨by rw[cut2,List.length_take];omega,fun x hx=>hr x (List.mem_of_mem_take hx)⟩
theorem parseR_sm:∀{n:Nat} {s:Bs} {out d:List Acx} {k e:Int},s.length<=1000000->s.count 32<=999->(∀x∈out,SmA x)->parseR n out s=(d,k,e)->∀x∈d,SmA x
 |0,s,out,d,k,e,_,_,ho,h=>by
  unfold parseR at h
  cases h;exact ho
 |n+1,s,out,d,k,e,hl,hc,ho,h=>by
  unfold parseR at h
  obtain⟨q1,q2,q3,q4⟩:=cut_parts s
  split at h
  ·cases h;exact ho
  ·split at h
   ·cases h;exact fun x hx=>by cases hx
   ·split at h
    ·cases h;exact fun x hx=>by cases hx
    ·rename_i x hx
     split at h
     ·rename_i hen
      refine parseR_sm (by have:=q4 hen;omega) (by omega) (fun y hy=>?_) h
      rcases List.mem_append.1 hy with hy|hy
      ·exact ho y hy
      ·rw[List.mem_singleton.1 hy]
       unfold parseS at hx
       split at hx
       ·injection hx with hx
        rw[<-hx]
        have hle:(splitL 32 (Lib.cut s [10]).1).length<=1000:=by rw[splitL_length];omega
        exact act_sm (r:=rd0 (Lib.cut s [10]).1) hle (by show(Lib.cut s [10]).1.length<=_;omega)
       ·cases hx
     ·cases h;exact fun x hx=>by cases hx
open Go.Scr
structure SzA (n t:Nat) (x:Acx):Prop where
 mv:x.mv.length<=n
 gl:x.gl.length<=n
 tx:x.txt.length<=t
 rc:x.rev.flt.car.length<=50
 rs:x.rev.flt.suf.length<=50
 fc:x.flt.car.length<=50
 fs:x.flt.suf.length<=50
theorem SzA.a {n t:Nat} {x:Acx} (h:SzA n t x) (hn:n<=1000) (ht:t<=1000000):SmA x:=by
 obtain⟨h1,h2,h3,h4,h5,h6,h7⟩:=h
 exact⟨by omega,by omega,by omega,by omega,by omega,by omega,by omega⟩
theorem SmS.sz {x:Acx} (h:SmS x):SzA 30 500 x:=⟨h.1,h.2.1,h.2.2.1,h.2.2.2.2.2.1,h.2.2.2.2.2.2,h.2.2.2.1,h.2.2.2.2.1⟩
theorem SmQ.sz {x:Acx} (h:SmQ x):SzA 1 200 x:=by
 obtain⟨h1,h2,h3,_,h4,h5,h6,h7⟩:=h
 exact⟨h1,h2,h3,by omega,by omega,by omega,by omega⟩
theorem SzA.sp {n t:Nat} {x:Acx} (h:SzA n t x) (l:List Int) (a:Nat):SzA (n+1) (t+1) (spS l a x).1:=by
 obtain⟨h1,h2,h3,h4,h5,h6,h7⟩:=h
 have ht:=spt_len l (a+2)
 have z:∀{k nd im dv cn am:Int} {p:Plt} {c o:Bool},SzA (n+1) (t+1) {x with k:=k,node:=nd,img:=im,dev:=dv,con:=cn,plt:=p,clr:=c,lost:=o,rev:={x.rev with amt:=am}}:=⟨by show x.mv.length<=_;omega,by show x.gl.length<=_;omega,by show x.txt.length<=_;omega,h4,h5,h6,h7⟩
 unfold spS
 generalize gN l (a+1) 12=c
 by_cases c0:c=0
 ·rw[if_pos c0]
  exact z
 rw[if_neg c0]
 by_cases c1:c=1
 ·rw[if_pos c1]
  exact z
 rw[if_neg c1]
 by_cases c2:c=2
 ·rw[if_pos c2]
  exact z
 rw[if_neg c2]
 by_cases c3:c=3
 ·rw[if_pos c3]
  exact z
 rw[if_neg c3]
 by_cases c4:c=4
 ·rw[if_pos c4]
  exact z
 rw[if_neg c4]
 by_cases c5:c=5
 ·rw[if_pos c5]
  exact⟨by show x.mv.length<=_;omega,by show x.gl.length<=_;omega,by show(x.txt++_).length<=_;rw[List.length_append];omega,h4,h5,h6,h7⟩
 rw[if_neg c5]
 by_cases c6:c=6
 ·rw[if_pos c6]
  exact z
 rw[if_neg c6]
 by_cases c7:c=7
 ·rw[if_pos c7]
  exact z
 rw[if_neg c7]
 by_cases c8:c=8
 ·rw[if_pos c8]
  exact⟨by show(x.mv++_).length<=_;rw[List.length_append,List.length_singleton];omega,by show x.gl.length<=_;omega,by show x.txt.length<=_;omega,h4,h5,h6,h7⟩
 rw[if_neg c8]
 by_cases c9:c=9
 ·rw[if_pos c9]
  exact⟨by show x.mv.length<=_;omega,by show(x.gl++_).length<=_;rw[List.length_append,List.length_singleton];omega,by show x.txt.length<=_;omega,h4,h5,h6,h7⟩
 rw[if_neg c9]
 by_cases c10:c=10
 ·rw[if_pos c10]
  exact z
 rw[if_neg c10]
 exact z
theorem count_set {c b:UInt8}:∀{s:Bs} {i:Nat},(s.set i b).count c<=s.count c+1
 |[],_=>by simp
 |x::s,0=>by
  rw[List.set_cons_zero,List.count_cons,List.count_cons]
  split<;>split<;>omega
 |x::s,i+1=>by
  have:=count_set (c:=c) (b:=b) (s:=s) (i:=i)
  rw[List.set_cons_succ,List.count_cons,List.count_cons]
  omega
def lls (L:List (List Acx)):List AV:=L.map fun a=> .sl (acts a) false
theorem lls_length (L:List (List Acx)):(lls L).length=L.length:=by simp[lls]
theorem lls_getD {L:List (List Acx)} {i:Nat} (h:i<L.length):(lls L).getD i .bad= .sl (acts (L.getD i [])) false:=by simp[lls,h]
theorem PE_lls (L:List (List Acx)):PE (lls L)=True:=by
 refine eq_true fun e he c hc=>?_
 simp only[lls,List.mem_map] at he
 obtain⟨x,_,rfl⟩:=he
 simp only[AV.cells,List.mem_singleton] at hc
 subst hc;rfl
theorem all_lls {L:List (List Acx)}:(∀y∈lls L,y.cells.length=1)=True:=by
 refine eq_true fun e he=>?_
 simp only[lls,List.mem_map] at he
 obtain⟨x,_,rfl⟩:=he
 rfl
attribute [go_sem] lls_length PE_lls all_lls
theorem parseR_len:∀{n:Nat} {s:Bs} {out d:List Acx} {k e:Int},out.length<=500->parseR n out s=(d,k,e)->d.length<=500
 |0,s,out,d,k,e,ho,h=>by
  unfold parseR at h
  cases h;exact ho
 |n+1,s,out,d,k,e,ho,h=>by
  unfold parseR at h
  split at h
  ·cases h;exact ho
  ·split at h
   ·cases h;exact Nat.zero_le _
   ·split at h
    ·cases h;exact Nat.zero_le _
    ·split at h
     ·exact parseR_len (by rw[List.length_append,List.length_singleton];omega) h
     ·cases h;exact Nat.zero_le _
theorem parseTS_ok {s:Bs} (hs:s.length<=1000000) (hc:s.count 32<=999):(parseTS s).1.length<=500/\∀x∈(parseTS s).1,SmA x:=by
 unfold parseTS
 split
 ·exact⟨Nat.zero_le _,fun x hx=>by cases hx⟩
 ·cases h:parseR s.length [] s with
  |mk d z=>
   obtain⟨k,e⟩:=z
   exact⟨parseR_len (Nat.zero_le _) h,parseR_sm hs hc (fun x hx=>by cases hx) h⟩
theorem byts_setU {s:Bs} {i:Nat} {b:UInt8}:(byts s).set i (Uc b)=byts (s.set i b):=by
 simp[byts,List.map_set,byteE]
open Go.Scr
theorem texts_law (raw:List Acx) (text:Bs) (l:List Int) (at':Int) (by':UInt8) (h0:raw.length<=9223372036854775807/\∀x∈raw,MxA x) (ht:text.length<=9223372036854775807) (hl:l.length<=9223372036854775807) (hr:∀x∈l,I64 x) (ha:I64 at'):
  SatG Tryz.prog tab 4 [] [.sl (acts raw) false,S (strOf text),IS l,I at',Uc by'] [] (B true):=by
 have hnew:=new_sat l hl
 have hf:=cut2_fits hr
 generalize hlq:cut2 l=lq at*
 have ga:=acts_sat lq 0 12 hf (by decide) (by decide)
 have oa:=genA_ok lq 0 12 (by decide) (by decide)
 generalize genA lq 0 12=A at*
 obtain⟨A,a1⟩:=A
 simp only at ga oa
 obtain⟨oa1,oa2⟩:=oa
 have oa2:A.length<=12:=oa2
 have gs:=gA_sat lq a1 0 hf
 have os:=gA_sm lq a1
 generalize gA lq a1=y at*
 obtain⟨y,a2⟩:=y
 simp only at gs os
 have gp:=spoilt_sat lq a2 y hf os.a
 have op:=os.sz.sp lq a2
 generalize spS lq a2 y=z at*
 obtain⟨z,a3⟩:=z
 simp only at gp op
 obtain⟨tA,hA,lA,cA⟩:=acts_small (l:=A) fun x hx=>(oa1 x hx).g
 have lA:tA.length<=24132:=Nat.le_trans lA (Nat.mul_le_mul_right 2011 oa2)
 have cA:tA.count 32<=108:=by omega
 obtain⟨fA,-⟩:=acts_back hA (by omega) (by omega)
 have haw:=awake_sat
 obtain⟨h1,h2⟩:=h0
 refine uFN Tryz.func4 Tryz.ntmps4 ?_;intro w e X hC
 refine uA ?_
 repeat refine uA ?_
 refine uW ?_
 refine awp_loopW (fun i:Nat×Nat=>⟨[(0, .sl (acts raw) false),(1,S (strOf text)),(2,IS l),(3,I at'),(4,Uc by'),(10,B false),(32,I raw.length),(33,I i.2)],[],i.1⟩) (fun i=>i.2<=raw.length/\∀j,j<i.2->SmS (raw.getD j default)) (fun i=>raw.length - i.2) (_,0) ⟨Nat.zero_le _,fun j hj=>absurd hj (Nat.not_lt_zero _)⟩ (uKF) ?_
 rintro⟨ck,i⟩ ⟨hi,hj⟩
 simp only at hi hj
 refine uA ?_
 refine uW ?_;refine condP _ rfl (fun h=>?_) (fun h=>?_)
 ·have hlt:i<raw.length:=by omega
  have hm:raw.getD i default∈raw:=by rw[List.getD_eq_getElem?_getD,List.getElem?_eq_getElem hlt];exact List.getElem_mem hlt
  have g1:=lsmall_sat _ (h2 _ hm)
  have hag:=acts_getD hlt
  by_cases c1:SmS (raw.getD i default)
  ·rw[decide_eq_true c1] at g1
   have hj2:∀j,j<i+1->SmS (raw.getD j default):=fun j hj'=>by
    by_cases hji:j=i
    ·rw[hji];exact c1
    ·exact hj j (by omega)
   refine uA ?_
   refine uR1 @hag ?_;intro K hK
   refine uH ?_
   refine callF uTS (g1) uTS uTS uTS ?_;refine uS ?_
   refine uH ?_
   refine hK _ ?_;clear hK K
   refine uF ?_
   repeat refine uA ?_
   refine⟨(_,i+1),⟨by simp only;omega,hj2⟩,by simp only;omega,uKF⟩
  ·rw[decide_eq_false c1] at g1
   refine uA ?_
   refine uR1 @hag ?_;intro K hK
   refine uH ?_
   refine callF uTS (g1) uTS uTS uTS ?_;refine uS ?_
   refine uH ?_
   refine hK _ ?_;clear hK K
   refine uT ?_
   repeat refine uA ?_
   (refine awp_ret (ret1 uRT ?_);try rfl)
 ·refine awp_exit ?_
  have:i=raw.length:=by omega
  subst this
  have hsz:∀x∈raw,SzA 30 500 x:=fun x hx=>by
   obtain⟨j,hj',rfl⟩:=List.getElem_of_mem hx
   have:=hj j hj'
   rw[List.getD_eq_getElem?_getD,List.getElem?_eq_getElem hj'] at this
   exact this.sz
  by_cases c1:20<raw.length
  ·have e1:=uDt (20<(raw.length:Int))
   repeat refine uA1 @e1 ?_
   refine uT ?_
   repeat refine uA ?_
   (refine awp_ret (ret1 uRT ?_);try rfl)
  have e1:=uDf (20<(raw.length:Int))
  by_cases c2:500<text.length
  ·have e2:=uDt (500<(text.length:Int))
   repeat refine uA1 (uI @e1 @e2) ?_
   refine uT ?_
   repeat refine uA ?_
   (refine awp_ret (ret1 uRT ?_);try rfl)
  have e2:=uDf (500<(text.length:Int))
  repeat refine uA1 (uI @e1 @e2) ?_
  refine uF ?_
  refine uR ?_;intro K hK
  refine callE [] [(152,ck+10,100,1)] false (hnew) uTR uTR uTE uTE uTE uTE uTE uTE uTE uTE uTE uTE uTE uTE uTE uTE uTE ?_;refine uQS ?_
  refine hK _ ?_;clear hK K
  generalize ck+10=gn
  refine awp_weak (s':=⟨[(0, .sl (acts raw) false),(1,S (strOf text)),(3,I at'),(4,Uc by'),(12, .ptO 152 gn 0 0 0)],(152,some (gn, .box [IS lq,I (min 0 lq.length:Nat)]))::[],_⟩) (.of (Nat.le_refl _) (uHF1 (uI @Nat.zero_min @Int.natCast_zero)) uWF) ?_
  refine uR ?_;intro K hK
  refine callL rfl (ga) uTS uTS uTS uTS uTS ?_;refine uS ?_
  refine hK _ ?_;clear hK K
  have hnk:(∀y∈acts A,∀c∈y.cells,c.noKid=true)=True:=by
   refine eq_true fun y hy c hc=>?_
   have:=of_eq_true (PE_acts A) y hy c hc
   cases c<;>first|exact this.elim|rfl
  have htk:(acts A).take A.length=acts A:=by rw[List.take_of_length_le (by rw[acts_length];exact Nat.le_refl _)]
  have hla:(acts A).length=A.length:=acts_length _
  have hap:acts A++[z.av]=acts (A++[z]):=acts_snoc
  refine awp_seq ?_
  refine awp_seq ?_
  refine awp_merge (fun q:Nat=>⟨[(1,S (strOf text)),(3,I at'),(4,Uc by'),(12, .ptO 152 gn 0 0 0),(13, .sl (acts A) false),(69, .sl [.sl (acts raw) false, .sl (acts A) false, .sl (acts (A++[z])) false] false),(70,I 3),(71,I 0)],(152,some (gn, .box [IS lq,I (min a3 lq.length:Nat)]))::[],q⟩) (fun _=>True) ?_ ?_
  ·by_cases hA0:A.length=0
   ·have hA1:A=[]:=List.eq_nil_of_length_eq_zero hA0
    subst hA1
    refine uD1 @acts_nil ?_;intro K hK
    refine uH ?_
    refine callL rfl (gs) uTS uTS uTS uTS uTS ?_;refine uS ?_
    refine callL rfl (gp) uTS uTS uTS uTS uTS ?_;refine uS ?_
    refine uH ?_
    refine hK _ ?_;clear hK K
    refine uW ?_
    refine⟨_,trivial,uKF⟩
   ·refine uD1 (uI @htk (uI @hla (uI @hA0 @hnk))) ?_;intro K hK
    refine uH ?_
    refine callL rfl (gs) uTS uTS uTS uTS uTS ?_;refine uS ?_
    refine callL rfl (gp) uTS uTS uTS uTS uTS ?_;refine uS ?_
    try refine uS1 (uI @htk (uI @hla (uI @hA0 (uI @hnk @hap)))) ?_
    refine uH ?_
    refine hK _ ?_;clear hK K
    have hlz:(acts (A++[z])).length=A.length+1:=by rw[acts_length,List.length_append];rfl
    refine uW ?_
    refine⟨_,trivial, .of (Nat.le_refl _) (uHF1 @hlz) (uWF1 @hlz)⟩
  rintro q -
  obtain⟨L,hL⟩:∃L:List (List Acx),L=[raw,A,A++[z]]:=⟨_,rfl⟩
  have eL:([.sl (acts raw) false, .sl (acts A) false, .sl (acts (A++[z])) false]:List AV)=lls L:=by rw[hL];rfl
  have hLl:L.length=3:=by rw[hL];rfl
  have hLf:∀x∈L,x.length<=1000000/\∀y∈x,SmA y:=fun x hx=>by
   rw[hL] at hx
   simp only[List.mem_cons,List.not_mem_nil,or_false] at hx
   rcases hx with rfl|rfl|rfl
   ·exact⟨by omega,fun y hy=>(hsz y hy).a (by decide) (by decide)⟩
   ·exact⟨by omega,fun y hy=>(oa1 y hy).q.a⟩
   ·refine⟨by rw[List.length_append,List.length_singleton];omega,fun y hy=>?_⟩
    rcases List.mem_append.1 hy with hy|hy
    ·exact(oa1 y hy).q.a
    ·rw[List.mem_singleton.1 hy];exact op.a (by decide) (by decide)
  have hll:(lls L).length=3:=by rw[lls_length,hLl]
  have g3:=rformat_sat A (by omega) fun x hx=>(oa1 x hx).q.a
  rw[fA] at g3
  rw[eL]
  clear eL hL hsz hj gs gp op os ga oa1
  refine uW ?_
  refine awp_loopW (fun i:Nat×Nat=>⟨[(1,S (strOf text)),(3,I at'),(4,Uc by'),(12, .ptO 152 gn 0 0 0),(13, .sl (acts A) false),(69, .sl (lls L) false),(70,I 3),(71,I i.2)],(152,some (gn, .box [IS lq,I (min a3 lq.length:Nat)]))::[],i.1⟩) (fun i=>i.2<=3) (fun i=>3 - i.2) (_,0) (Nat.zero_le _) (uKF) ?_
  rintro⟨ck2,i⟩ hi
  simp only at hi
  refine uA ?_
  refine uW ?_;refine condP _ rfl (fun h3=>?_) (fun h3=>?_)
  ·have hlt:i<L.length:=by omega
   have hget:=lls_getD hlt
   have hm:L.getD i []∈L:=by rw[List.getD_eq_getElem?_getD,List.getElem?_eq_getElem hlt];exact List.getElem_mem hlt
   obtain⟨b1,b2⟩:=hLf _ hm
   have g1:=format_sat _ b1 b2
   have g2:=rformat_sat _ b1 b2
   generalize L.getD i []=x at*
   generalize formatS x=F at*
   refine uA1 (uI @hget @hll) ?_
   refine uR ?_;intro K hK
   refine uH ?_
   refine callF uTS (g1) uTS uTS uTS ?_;refine uS ?_
   refine uH ?_
   refine hK _ ?_;clear hK K
   refine uR ?_;intro K hK
   refine uH ?_
   refine callF uTS (g2) uTS uTS uTS ?_;refine uS ?_
   refine uH ?_
   refine hK _ ?_;clear hK K
   repeat refine uA ?_
   refine uF ?_
   repeat refine uA ?_
   refine⟨(_,i+1),by simp only;omega,by simp only;omega,uKF⟩
  ·refine awp_exit ?_
   refine uR ?_;intro K hK
   refine uH ?_
   refine callF uTS (g3) uTS uTS uTS ?_;refine uS ?_
   refine uH ?_
   refine hK _ ?_;clear hK K
   refine uA ?_
   obtain⟨bt,hbt⟩:∃b,b=tA.set (modI at' tA.length).toNat by':=⟨_,rfl⟩
   have hbl:bt.length=tA.length:=by rw[hbt,List.length_set]
   have cB:bt.count 32<=109:=by rw[hbt];exact Nat.le_trans count_set (by omega)
   refine awp_seq ?_
   refine awp_merge (fun q:Nat=>⟨[(1,S (strOf text)),(12, .ptO 152 gn 0 0 0),(20,S (strOf tA)),(22, .slO 200 (ck2+9) 0 tA.length)],(200,some (ck2+9, .own 5 1 (byts bt)))::(152,some (gn, .box [IS lq,I (min a3 lq.length:Nat)]))::[],q⟩) (fun _=>True) ?_ ?_
   ·by_cases hz:tA.length=0
    ·have hz1:tA=[]:=List.eq_nil_of_length_eq_zero hz
     have hz2:bt=[]:=by rw[hbt,hz1];rfl
     have e5:=uDf (0<(tA.length:Int))
     have hb0:byts bt=tA.map byteE:=by rw[hz2,hz1];rfl
     rw[hb0]
     repeat refine uA1 @e5 ?_
     refine uF ?_
     refine uW ?_
     refine⟨_,trivial,uKF⟩
    ·have e5:=uDt (0<(tA.length:Int))
     have g4:=mod_sat at' tA.length ha (by omega)
     have b4:=modI_lt (x:=at') (n:=tA.length) (by omega)
     rw[hbt]
     have e6:(tA.map byteE).set (modI at' tA.length).toNat (Uc by')=byts (tA.set (modI at' tA.length).toNat by'):=byts_setU
     generalize modI at' tA.length=mi at*
     have hml:(tA.map byteE).length=tA.length:=by simp
     have hmi:mi.toNat<tA.length:=by omega
     refine uA1 @e5 ?_
     refine uT ?_
     refine uR ?_;intro K hK
     refine uH ?_
     refine callF uTS (g4) uTS uTS uTS ?_;refine uS ?_
     try refine uS1 (uI @e6 @hml) ?_
     refine uH ?_
     refine hK _ ?_;clear hK K
     refine uW ?_
     refine⟨_,trivial,uKF⟩
   rintro q2 -
   have gk:=gN_sat lq a3 ((tA.length+1:Nat):Int) hf (by omega)
   have bk:=gN_lt (l:=lq) (a:=a3) (n:=((tA.length+1:Nat):Int)) (by omega)
   generalize gN lq a3 ((tA.length+1:Nat):Int)=kk at*
   have ek:(tA.length:Int)+1=((tA.length+1:Nat):Int):=by omega
   obtain⟨W,hW⟩:∃W:List Bs,W=[text,tA,bt,tA++text,tA++[10],tA.take kk.toNat,[]]:=⟨_,rfl⟩
   have eW:([S (strOf text),S (strOf tA),S (strOf bt),S (strOf (tA++text)),S (strOf (tA++[10])),S (strOf (tA.take kk.toNat)),S (strOf [])]:List AV)=strs W:=by rw[hW];rfl
   have hWl:W.length=7:=by rw[hW];rfl
   have hWf:∀x∈W,x.length<=900000/\x.count 32<=999:=fun x hx=>by
    rw[hW] at hx
    have q1:text.count 32<=text.length:=List.count_le_length
    simp only[List.mem_cons,List.not_mem_nil,or_false] at hx
    rcases hx with rfl|rfl|rfl|rfl|rfl|rfl|rfl
    ·exact⟨by omega,by omega⟩
    ·exact⟨by omega,by omega⟩
    ·exact⟨by omega,by omega⟩
    ·exact⟨by rw[List.length_append];omega,by rw[List.count_append];omega⟩
    ·exact⟨by rw[List.length_append,List.length_singleton];omega,by rw[List.count_append,show List.count 32 ([10]:Bs)=0 from rfl];omega⟩
    ·exact⟨by rw[List.length_take];omega,Nat.le_trans (List.Sublist.count_le 32 (List.take_sublist _ _)) (by omega)⟩
    ·exact⟨Nat.zero_le _,Nat.zero_le _⟩
   refine uD1 (uI @str_mk @ek) ?_;intro K hK
   refine uH ?_
   refine callL rfl (gk) uTS uTS uTS uTS uTS ?_;refine uS ?_
   try refine uS1 (uI @str_mk @ek) ?_
   refine uH ?_
   refine hK _ ?_;clear hK K
   refine awp_weak (s':=⟨[(127, .sl [S (strOf text),S (strOf tA),S (strOf bt),S (strOf (tA++text)),S (strOf (tA++[10])),S (strOf (tA.take kk.toNat)),S (strOf [])] false),(128,I 7),(129,I 0)],[],_⟩) (uKF) ?_
   rw[eW]
   clear eW hW
   refine uW ?_
   refine awp_loopW (fun i:Nat×Nat=>⟨[(127, .sl (strs W) false),(128,I 7),(129,I i.2)],[],i.1⟩) (fun i=>i.2<=7) (fun i=>7 - i.2) (_,0) (Nat.zero_le _) (uKF) ?_
   rintro⟨ck3,i⟩ hi
   simp only at hi
   have hsl:(strs W).length=7:=by rw[strs_length,hWl]
   refine uA ?_
   refine uW ?_;refine condP _ rfl (fun h4=>?_) (fun h4=>?_)
   ·have hlt:i<W.length:=by omega
    have hget:(strs W).getD i .bad=S (strOf (W.getD i [])):=strs_getD hlt
    have hm:W.getD i []∈W:=by rw[List.getD_eq_getElem?_getD,List.getElem?_eq_getElem hlt];exact List.getElem_mem hlt
    obtain⟨b1,b2⟩:=hWf _ hm
    have g1:=parse_sat _ (Nat.le_trans b1 (by decide)) b2
    have g2:=rparse_sat _ b1 b2
    obtain⟨p1,p2⟩:=parseTS_ok (Nat.le_trans b1 (by decide)) b2
    generalize W.getD i []=t at*
    have s1:=rsameAll_sat (parseTS t).1 (parseTS t).1 (by omega) (by omega) (fun x hx=>⟨by have:=(p2 x hx).mv;omega,by have:=(p2 x hx).gl;omega⟩) (fun x hx=>⟨by have:=(p2 x hx).mv;omega,by have:=(p2 x hx).gl;omega⟩)
    rw[decide_eq_true rfl] at s1
    generalize parseTS t=F at*
    refine uA1 (uI @hget @hsl) ?_
    refine uR ?_;intro K hK
    refine uH ?_
    refine callP uTS (g1) uTS uTS uTS ?_;refine uS ?_
    refine uH ?_
    refine hK _ ?_;clear hK K
    refine uR ?_;intro K hK
    refine uH ?_
    refine callP uTS (g2) uTS uTS uTS ?_;refine uS ?_
    refine uH ?_
    refine hK _ ?_;clear hK K
    refine uR ?_;intro K hK
    refine uH ?_
    refine callF uTS (s1) uTS uTS uTS ?_;refine uS ?_
    refine uH ?_
    refine hK _ ?_;clear hK K
    refine uF ?_
    repeat refine uA ?_
    refine⟨(_,i+1),by simp only;omega,by simp only;omega,uKF⟩
   ·refine awp_exit ?_
    refine uR ?_;intro K hK
    refine uH ?_
    refine callF uTS (haw) uTS uTS uTS ?_;refine uS ?_
    refine hK _ ?_;clear hK K
    (refine awp_ret (ret1 uRT ?_);try rfl)
end Go.Proofs.YtokkbonoplbiaaaGreatDoor
