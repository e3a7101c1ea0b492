/- Lemmas towards scriptLines_card: no conditions of their own beyond those that each one states. -/
import Derived.Test.YtokkbonoplbiaaaGreatDoorA10
set_option linter.all false
set_option linter.unusedSimpArgs false
set_option linter.unusedVariables false
set_option linter.deprecated false
namespace Go.Proofs.YtokkbonoplbiaaaGreatDoor
open Go Go.Sym
open Go.Scr
abbrev SmS (x:Acx):Prop:=x.mv.length<=30/\x.gl.length<=30/\x.txt.length<=500/\x.flt.car.length<=50/\x.flt.suf.length<=50/\x.rev.flt.car.length<=50/\x.rev.flt.suf.length<=50
theorem lsmall_sat (x:Acx) (hx:MxA x):SatG Tryz.prog tab 7 [] [x.av] [] (B (decide (SmS x))):=by
 obtain⟨x1,x2,x3,x4,x5,x6,x7⟩:=hx
 refine uFN Tryz.func7 Tryz.ntmps7 ?_;intro w e X hC
 refine uA ?_
 by_cases c1:x.mv.length<=30
 rotate_left
 ·have e1:=uDf ((x.mv.length:Int)<=30)
  rw[show decide (SmS x)=false from decide_eq_false fun h=>c1 h.1]
  refine uA1 @e1 ?_
  (refine awp_ret (ret1 uRT ?_);try rfl)
 have e1:=uDt ((x.mv.length:Int)<=30)
 by_cases c2:x.gl.length<=30
 rotate_left
 ·have e2:=uDf ((x.gl.length:Int)<=30)
  rw[show decide (SmS x)=false from decide_eq_false fun h=>c2 h.2.1]
  refine uA1 (uI @e1 @e2) ?_
  (refine awp_ret (ret1 uRT ?_);try rfl)
 have e2:=uDt ((x.gl.length:Int)<=30)
 by_cases c3:x.txt.length<=500
 rotate_left
 ·have e3:=uDf ((x.txt.length:Int)<=500)
  rw[show decide (SmS x)=false from decide_eq_false fun h=>c3 h.2.2.1]
  refine uA1 (uI @e1 (uI @e2 @e3)) ?_
  (refine awp_ret (ret1 uRT ?_);try rfl)
 have e3:=uDt ((x.txt.length:Int)<=500)
 by_cases c4:x.flt.car.length<=50
 rotate_left
 ·have e4:=uDf ((x.flt.car.length:Int)<=50)
  rw[show decide (SmS x)=false from decide_eq_false fun h=>c4 h.2.2.2.1]
  refine uA1 (uI @e1 (uI @e2 (uI @e3 @e4))) ?_
  (refine awp_ret (ret1 uRT ?_);try rfl)
 have e4:=uDt ((x.flt.car.length:Int)<=50)
 by_cases c5:x.flt.suf.length<=50
 rotate_left
 ·have e5:=uDf ((x.flt.suf.length:Int)<=50)
  rw[show decide (SmS x)=false from decide_eq_false fun h=>c5 h.2.2.2.2.1]
  refine uA1 (uI @e1 (uI @e2 (uI @e3 (uI @e4 @e5)))) ?_
  (refine awp_ret (ret1 uRT ?_);try rfl)
 have e5:=uDt ((x.flt.suf.length:Int)<=50)
 by_cases c6:x.rev.flt.car.length<=50
 rotate_left
 ·have e6:=uDf ((x.rev.flt.car.length:Int)<=50)
  rw[show decide (SmS x)=false from decide_eq_false fun h=>c6 h.2.2.2.2.2.1]
  refine uA1 (uI @e1 (uI @e2 (uI @e3 (uI @e4 (uI @e5 @e6))))) ?_
  (refine awp_ret (ret1 uRT ?_);try rfl)
 have e6:=uDt ((x.rev.flt.car.length:Int)<=50)
 by_cases c7:x.rev.flt.suf.length<=50
 rotate_left
 ·have e7:=uDf ((x.rev.flt.suf.length:Int)<=50)
  rw[show decide (SmS x)=false from decide_eq_false fun h=>c7 h.2.2.2.2.2.2]
  refine uA1 (uI @e1 (uI @e2 (uI @e3 (uI @e4 (uI @e5 (uI @e6 @e7)))))) ?_
  (refine awp_ret (ret1 uRT ?_);try rfl)
 have e7:=uDt ((x.rev.flt.suf.length:Int)<=50)
 rw[show decide (SmS x)=true from decide_eq_true ⟨c1,c2,c3,c4,c5,c6,c7⟩]
 refine uA1 (uI @e1 (uI @e2 (uI @e3 (uI @e4 (uI @e5 (uI @e6 @e7)))))) ?_
 (refine awp_ret (ret1 uRT ?_);try rfl)
def oddL:List Int:=[-1,0,1,7,999999,1000000]
def sptL:List Bs:=[[124],[10],[32],[127],[0],[120]]
def airL:List Int:=[0,1,999,1000]
def spS (l:List Int) (a:Nat) (x:Acx):Acx×Nat:=
 if gN l (a+1) 12=0 then({x with k:=gN l (a+2) 16 - 1},a+3)
 else if gN l (a+1) 12=1 then({x with node:=gP l a oddL},a+2)
 else if gN l (a+1) 12=2 then({x with img:=gP l a oddL},a+2)
 else if gN l (a+1) 12=3 then({x with dev:=gP l a oddL},a+2)
 else if gN l (a+1) 12=4 then({x with con:=gP l a oddL},a+2)
 else if gN l (a+1) 12=5 then({x with txt:=x.txt++gT l (a+2) sptL},a+3)
 else if gN l (a+1) 12=6 then({x with clr:=!x.clr},a+2)
 else if gN l (a+1) 12=7 then({x with lost:=!x.lost},a+2)
 else if gN l (a+1) 12=8 then({x with mv:=x.mv++[⟨gN l (a+2) 8,gP l a oddL,gN l (a+3) 3⟩]},a+4)
 else if gN l (a+1) 12=9 then({x with gl:=x.gl++[⟨gN l (a+2) 8,gN l (a+3) 3,gP l a oddL⟩]},a+4)
 else if gN l (a+1) 12=10 then({x with rev:={x.rev with amt:=gP l a oddL}},a+2)
 else({x with plt:={x.plt with a:=gP l (a+2) airL}},a+3)
theorem spt_len (l:List Int) (a:Nat):(gT l a sptL).length<=1:=by
 unfold gT
 have hb:=gN_lt (l:=l) (a:=a) (n:=sptL.length) (by decide)
 have h6:(sptL.length:Int)=6:=rfl
 generalize gN l a sptL.length=m at*
 have:m=0\/m=1\/m=2\/m=3\/m=4\/m=5:=by omega
 rcases this with rfl|rfl|rfl|rfl|rfl|rfl<;>decide
theorem sp_0 (l:List Int) (a:Nat) (x:Acx) (hf:Fits l) (hx:SmA x) (hc:gN l (a+1) 12=0):SatG Tryz.prog tab 11 (srcC l a) [.ptO 0 0 0 0 0,x.av] (srcC l (spS l a x).2) (spS l a x).1.av:=by
 have h1:=gP_sat l a oddL hf (by decide) (by decide)
 have h2:=gN_sat l (a+1) 12 hf (by decide)
 obtain⟨x1,x2,x3,x4,x5,x6,x7⟩:=hx
 have e0:=uDt (gN l (a+1) 12=0)
 have e1:=uDf (gN l (a+1) 12=1)
 have e2:=uDf (gN l (a+1) 12=2)
 have e3:=uDf (gN l (a+1) 12=3)
 have e4:=uDf (gN l (a+1) 12=4)
 have e5:=uDf (gN l (a+1) 12=5)
 have e6:=uDf (gN l (a+1) 12=6)
 have e7:=uDf (gN l (a+1) 12=7)
 have e8:=uDf (gN l (a+1) 12=8)
 have e9:=uDf (gN l (a+1) 12=9)
 have e10:=uDf (gN l (a+1) 12=10)
 have h3:=gN_sat l (a+2) 16 hf (by decide)
 have b3:=gN_lt (l:=l) (a:=a+2) (n:=16) (by decide)
 unfold spS
 rw[if_pos hc]
 generalize gP l a oddL=od at*
 generalize gN l (a+1) 12=c at*
 generalize gN l (a+2) 16=n3 at*
 refine uFN Tryz.func11 Tryz.ntmps11 ?_;intro w e X hC
 repeat refine uA ?_
 refine uR ?_;intro K hK
 refine callL rfl (h1) uTS uTS uTS uTS uTS ?_;refine uS ?_
 refine hK _ ?_;clear hK K
 refine uR ?_;intro K hK
 refine callL rfl (h2) uTS uTS uTS uTS uTS ?_;refine uS ?_
 refine hK _ ?_;clear hK K
 repeat first|refine uC ?_|refine uA1 @e0 ?_
 refine uR ?_;intro K hK
 refine callL rfl (h3) uTS uTS uTS uTS uTS ?_;refine uS ?_
 refine uH ?_
 refine hK _ ?_;clear hK K
 repeat refine uA ?_
 refine awp_ret ?_;rw[show Tryz.f11.results.toList=[.cell 4 30] from rfl];(refine(retBs uRG rfl uTC uTC ?_ ?_);all_goals (first|refine uSC ?_|exact uXC|skip))
 try rfl
theorem sp_1 (l:List Int) (a:Nat) (x:Acx) (hf:Fits l) (hx:SmA x) (hc:gN l (a+1) 12=1):SatG Tryz.prog tab 11 (srcC l a) [.ptO 0 0 0 0 0,x.av] (srcC l (spS l a x).2) (spS l a x).1.av:=by
 have h1:=gP_sat l a oddL hf (by decide) (by decide)
 have h2:=gN_sat l (a+1) 12 hf (by decide)
 obtain⟨x1,x2,x3,x4,x5,x6,x7⟩:=hx
 have e0:=uDf (gN l (a+1) 12=0)
 have e1:=uDt (gN l (a+1) 12=1)
 have e2:=uDf (gN l (a+1) 12=2)
 have e3:=uDf (gN l (a+1) 12=3)
 have e4:=uDf (gN l (a+1) 12=4)
 have e5:=uDf (gN l (a+1) 12=5)
 have e6:=uDf (gN l (a+1) 12=6)
 have e7:=uDf (gN l (a+1) 12=7)
 have e8:=uDf (gN l (a+1) 12=8)
 have e9:=uDf (gN l (a+1) 12=9)
 have e10:=uDf (gN l (a+1) 12=10)
 unfold spS
 rw[if_neg (by omega:¬gN l (a+1) 12=0),if_pos hc]
 generalize gP l a oddL=od at*
 generalize gN l (a+1) 12=c at*
 refine uFN Tryz.func11 Tryz.ntmps11 ?_;intro w e X hC
 repeat refine uA ?_
 refine uR ?_;intro K hK
 refine callL rfl (h1) uTS uTS uTS uTS uTS ?_;refine uS ?_
 refine hK _ ?_;clear hK K
 refine uR ?_;intro K hK
 refine callL rfl (h2) uTS uTS uTS uTS uTS ?_;refine uS ?_
 refine hK _ ?_;clear hK K
 repeat first|refine uC ?_|refine uA1 (uI @e0 @e1) ?_
 repeat refine uA ?_
 refine awp_ret ?_;rw[show Tryz.f11.results.toList=[.cell 4 30] from rfl];(refine(retBs uRG rfl uTC uTC ?_ ?_);all_goals (first|refine uSC ?_|exact uXC|skip))
 try rfl
theorem sp_2 (l:List Int) (a:Nat) (x:Acx) (hf:Fits l) (hx:SmA x) (hc:gN l (a+1) 12=2):SatG Tryz.prog tab 11 (srcC l a) [.ptO 0 0 0 0 0,x.av] (srcC l (spS l a x).2) (spS l a x).1.av:=by
 have h1:=gP_sat l a oddL hf (by decide) (by decide)
 have h2:=gN_sat l (a+1) 12 hf (by decide)
 obtain⟨x1,x2,x3,x4,x5,x6,x7⟩:=hx
 have e0:=uDf (gN l (a+1) 12=0)
 have e1:=uDf (gN l (a+1) 12=1)
 have e2:=uDt (gN l (a+1) 12=2)
 have e3:=uDf (gN l (a+1) 12=3)
 have e4:=uDf (gN l (a+1) 12=4)
 have e5:=uDf (gN l (a+1) 12=5)
 have e6:=uDf (gN l (a+1) 12=6)
 have e7:=uDf (gN l (a+1) 12=7)
 have e8:=uDf (gN l (a+1) 12=8)
 have e9:=uDf (gN l (a+1) 12=9)
 have e10:=uDf (gN l (a+1) 12=10)
 unfold spS
 rw[if_neg (by omega:¬gN l (a+1) 12=0),if_neg (by omega:¬gN l (a+1) 12=1),if_pos hc]
 generalize gP l a oddL=od at*
 generalize gN l (a+1) 12=c at*
 refine uFN Tryz.func11 Tryz.ntmps11 ?_;intro w e X hC
 repeat refine uA ?_
 refine uR ?_;intro K hK
 refine callL rfl (h1) uTS uTS uTS uTS uTS ?_;refine uS ?_
 refine hK _ ?_;clear hK K
 refine uR ?_;intro K hK
 refine callL rfl (h2) uTS uTS uTS uTS uTS ?_;refine uS ?_
 refine hK _ ?_;clear hK K
 repeat first|refine uC ?_|refine uA1 (uI @e0 (uI @e1 @e2)) ?_
 repeat refine uA ?_
 refine awp_ret ?_;rw[show Tryz.f11.results.toList=[.cell 4 30] from rfl];(refine(retBs uRG rfl uTC uTC ?_ ?_);all_goals (first|refine uSC ?_|exact uXC|skip))
 try rfl
theorem sp_3 (l:List Int) (a:Nat) (x:Acx) (hf:Fits l) (hx:SmA x) (hc:gN l (a+1) 12=3):SatG Tryz.prog tab 11 (srcC l a) [.ptO 0 0 0 0 0,x.av] (srcC l (spS l a x).2) (spS l a x).1.av:=by
 have h1:=gP_sat l a oddL hf (by decide) (by decide)
 have h2:=gN_sat l (a+1) 12 hf (by decide)
 obtain⟨x1,x2,x3,x4,x5,x6,x7⟩:=hx
 have e0:=uDf (gN l (a+1) 12=0)
 have e1:=uDf (gN l (a+1) 12=1)
 have e2:=uDf (gN l (a+1) 12=2)
 have e3:=uDt (gN l (a+1) 12=3)
 have e4:=uDf (gN l (a+1) 12=4)
 have e5:=uDf (gN l (a+1) 12=5)
 have e6:=uDf (gN l (a+1) 12=6)
 have e7:=uDf (gN l (a+1) 12=7)
 have e8:=uDf (gN l (a+1) 12=8)
 have e9:=uDf (gN l (a+1) 12=9)
 have e10:=uDf (gN l (a+1) 12=10)
 unfold spS
 rw[if_neg (by omega:¬gN l (a+1) 12=0),if_neg (by omega:¬gN l (a+1) 12=1),if_neg (by omega:¬gN l (a+1) 12=2),if_pos hc]
 generalize gP l a oddL=od at*
 generalize gN l (a+1) 12=c at*
 refine uFN Tryz.func11 Tryz.ntmps11 ?_;intro w e X hC
 repeat refine uA ?_
 refine uR ?_;intro K hK
 refine callL rfl (h1) uTS uTS uTS uTS uTS ?_;refine uS ?_
 refine hK _ ?_;clear hK K
 refine uR ?_;intro K hK
 refine callL rfl (h2) uTS uTS uTS uTS uTS ?_;refine uS ?_
 refine hK _ ?_;clear hK K
 repeat first|refine uC ?_|refine uA1 (uI @e0 (uI @e1 (uI @e2 @e3))) ?_
 repeat refine uA ?_
 refine awp_ret ?_;rw[show Tryz.f11.results.toList=[.cell 4 30] from rfl];(refine(retBs uRG rfl uTC uTC ?_ ?_);all_goals (first|refine uSC ?_|exact uXC|skip))
 try rfl
theorem sp_4 (l:List Int) (a:Nat) (x:Acx) (hf:Fits l) (hx:SmA x) (hc:gN l (a+1) 12=4):SatG Tryz.prog tab 11 (srcC l a) [.ptO 0 0 0 0 0,x.av] (srcC l (spS l a x).2) (spS l a x).1.av:=by
 have h1:=gP_sat l a oddL hf (by decide) (by decide)
 have h2:=gN_sat l (a+1) 12 hf (by decide)
 obtain⟨x1,x2,x3,x4,x5,x6,x7⟩:=hx
 have e0:=uDf (gN l (a+1) 12=0)
 have e1:=uDf (gN l (a+1) 12=1)
 have e2:=uDf (gN l (a+1) 12=2)
 have e3:=uDf (gN l (a+1) 12=3)
 have e4:=uDt (gN l (a+1) 12=4)
 have e5:=uDf (gN l (a+1) 12=5)
 have e6:=uDf (gN l (a+1) 12=6)
 have e7:=uDf (gN l (a+1) 12=7)
 have e8:=uDf (gN l (a+1) 12=8)
 have e9:=uDf (gN l (a+1) 12=9)
 have e10:=uDf (gN l (a+1) 12=10)
 unfold spS
 rw[if_neg (by omega:¬gN l (a+1) 12=0),if_neg (by omega:¬gN l (a+1) 12=1),if_neg (by omega:¬gN l (a+1) 12=2),if_neg (by omega:¬gN l (a+1) 12=3),if_pos hc]
 generalize gP l a oddL=od at*
 generalize gN l (a+1) 12=c at*
 refine uFN Tryz.func11 Tryz.ntmps11 ?_;intro w e X hC
 repeat refine uA ?_
 refine uR ?_;intro K hK
 refine callL rfl (h1) uTS uTS uTS uTS uTS ?_;refine uS ?_
 refine hK _ ?_;clear hK K
 refine uR ?_;intro K hK
 refine callL rfl (h2) uTS uTS uTS uTS uTS ?_;refine uS ?_
 refine hK _ ?_;clear hK K
 repeat first|refine uC ?_|refine uA1 (uI @e0 (uI @e1 (uI @e2 (uI @e3 @e4)))) ?_
 repeat refine uA ?_
 refine awp_ret ?_;rw[show Tryz.f11.results.toList=[.cell 4 30] from rfl];(refine(retBs uRG rfl uTC uTC ?_ ?_);all_goals (first|refine uSC ?_|exact uXC|skip))
 try rfl
theorem sp_5 (l:List Int) (a:Nat) (x:Acx) (hf:Fits l) (hx:SmA x) (hc:gN l (a+1) 12=5):SatG Tryz.prog tab 11 (srcC l a) [.ptO 0 0 0 0 0,x.av] (srcC l (spS l a x).2) (spS l a x).1.av:=by
 have h1:=gP_sat l a oddL hf (by decide) (by decide)
 have h2:=gN_sat l (a+1) 12 hf (by decide)
 obtain⟨x1,x2,x3,x4,x5,x6,x7⟩:=hx
 have e0:=uDf (gN l (a+1) 12=0)
 have e1:=uDf (gN l (a+1) 12=1)
 have e2:=uDf (gN l (a+1) 12=2)
 have e3:=uDf (gN l (a+1) 12=3)
 have e4:=uDf (gN l (a+1) 12=4)
 have e5:=uDt (gN l (a+1) 12=5)
 have e6:=uDf (gN l (a+1) 12=6)
 have e7:=uDf (gN l (a+1) 12=7)
 have e8:=uDf (gN l (a+1) 12=8)
 have e9:=uDf (gN l (a+1) 12=9)
 have e10:=uDf (gN l (a+1) 12=10)
 have h3:=gT_sat l (a+2) sptL hf (by decide) (by decide)
 have b3:(gT l (a+2) sptL).length<=1:=spt_len _ _
 unfold spS
 rw[if_neg (by omega:¬gN l (a+1) 12=0),if_neg (by omega:¬gN l (a+1) 12=1),if_neg (by omega:¬gN l (a+1) 12=2),if_neg (by omega:¬gN l (a+1) 12=3),if_neg (by omega:¬gN l (a+1) 12=4),if_pos hc]
 generalize gP l a oddL=od at*
 generalize gN l (a+1) 12=c at*
 generalize gT l (a+2) sptL=n3 at*
 refine uFN Tryz.func11 Tryz.ntmps11 ?_;intro w e X hC
 repeat refine uA ?_
 refine uR ?_;intro K hK
 refine callL rfl (h1) uTS uTS uTS uTS uTS ?_;refine uS ?_
 refine hK _ ?_;clear hK K
 refine uR ?_;intro K hK
 refine callL rfl (h2) uTS uTS uTS uTS uTS ?_;refine uS ?_
 refine hK _ ?_;clear hK K
 repeat first|refine uC ?_|refine uA1 (uI @e0 (uI @e1 (uI @e2 (uI @e3 (uI @e4 @e5))))) ?_
 refine uD ?_;intro K hK
 refine callL rfl (h3) uTS uTS uTS uTS uTS ?_;refine uS ?_
 try refine uS ?_
 refine uH ?_
 refine hK _ ?_;clear hK K
 repeat refine uA ?_
 refine awp_ret ?_;rw[show Tryz.f11.results.toList=[.cell 4 30] from rfl];(refine(retBs uRG rfl uTC uTC ?_ ?_);all_goals (first|refine uSC ?_|exact uXC|skip))
 try rfl
theorem sp_6 (l:List Int) (a:Nat) (x:Acx) (hf:Fits l) (hx:SmA x) (hc:gN l (a+1) 12=6):SatG Tryz.prog tab 11 (srcC l a) [.ptO 0 0 0 0 0,x.av] (srcC l (spS l a x).2) (spS l a x).1.av:=by
 have h1:=gP_sat l a oddL hf (by decide) (by decide)
 have h2:=gN_sat l (a+1) 12 hf (by decide)
 obtain⟨x1,x2,x3,x4,x5,x6,x7⟩:=hx
 have e0:=uDf (gN l (a+1) 12=0)
 have e1:=uDf (gN l (a+1) 12=1)
 have e2:=uDf (gN l (a+1) 12=2)
 have e3:=uDf (gN l (a+1) 12=3)
 have e4:=uDf (gN l (a+1) 12=4)
 have e5:=uDf (gN l (a+1) 12=5)
 have e6:=uDt (gN l (a+1) 12=6)
 have e7:=uDf (gN l (a+1) 12=7)
 have e8:=uDf (gN l (a+1) 12=8)
 have e9:=uDf (gN l (a+1) 12=9)
 have e10:=uDf (gN l (a+1) 12=10)
 unfold spS
 rw[if_neg (by omega:¬gN l (a+1) 12=0),if_neg (by omega:¬gN l (a+1) 12=1),if_neg (by omega:¬gN l (a+1) 12=2),if_neg (by omega:¬gN l (a+1) 12=3),if_neg (by omega:¬gN l (a+1) 12=4),if_neg (by omega:¬gN l (a+1) 12=5),if_pos hc]
 generalize gP l a oddL=od at*
 generalize gN l (a+1) 12=c at*
 refine uFN Tryz.func11 Tryz.ntmps11 ?_;intro w e X hC
 repeat refine uA ?_
 refine uR ?_;intro K hK
 refine callL rfl (h1) uTS uTS uTS uTS uTS ?_;refine uS ?_
 refine hK _ ?_;clear hK K
 refine uR ?_;intro K hK
 refine callL rfl (h2) uTS uTS uTS uTS uTS ?_;refine uS ?_
 refine hK _ ?_;clear hK K
 repeat first|refine uC ?_|refine uA1 (uI @e0 (uI @e1 (uI @e2 (uI @e3 (uI @e4 (uI @e5 @e6)))))) ?_
 repeat refine uA ?_
 refine awp_ret ?_;rw[show Tryz.f11.results.toList=[.cell 4 30] from rfl];(refine(retBs uRG rfl uTC uTC ?_ ?_);all_goals (first|refine uSC ?_|exact uXC|skip))
 try rfl
theorem sp_7 (l:List Int) (a:Nat) (x:Acx) (hf:Fits l) (hx:SmA x) (hc:gN l (a+1) 12=7):SatG Tryz.prog tab 11 (srcC l a) [.ptO 0 0 0 0 0,x.av] (srcC l (spS l a x).2) (spS l a x).1.av:=by
 have h1:=gP_sat l a oddL hf (by decide) (by decide)
 have h2:=gN_sat l (a+1) 12 hf (by decide)
 obtain⟨x1,x2,x3,x4,x5,x6,x7⟩:=hx
 have e0:=uDf (gN l (a+1) 12=0)
 have e1:=uDf (gN l (a+1) 12=1)
 have e2:=uDf (gN l (a+1) 12=2)
 have e3:=uDf (gN l (a+1) 12=3)
 have e4:=uDf (gN l (a+1) 12=4)
 have e5:=uDf (gN l (a+1) 12=5)
 have e6:=uDf (gN l (a+1) 12=6)
 have e7:=uDt (gN l (a+1) 12=7)
 have e8:=uDf (gN l (a+1) 12=8)
 have e9:=uDf (gN l (a+1) 12=9)
 have e10:=uDf (gN l (a+1) 12=10)
 unfold spS
 rw[if_neg (by omega:¬gN l (a+1) 12=0),if_neg (by omega:¬gN l (a+1) 12=1),if_neg (by omega:¬gN l (a+1) 12=2),if_neg (by omega:¬gN l (a+1) 12=3),if_neg (by omega:¬gN l (a+1) 12=4),if_neg (by omega:¬gN l (a+1) 12=5),if_neg (by omega:¬gN l (a+1) 12=6),if_pos hc]
 generalize gP l a oddL=od at*
 generalize gN l (a+1) 12=c at*
 refine uFN Tryz.func11 Tryz.ntmps11 ?_;intro w e X hC
 repeat refine uA ?_
 refine uR ?_;intro K hK
 refine callL rfl (h1) uTS uTS uTS uTS uTS ?_;refine uS ?_
 refine hK _ ?_;clear hK K
 refine uR ?_;intro K hK
 refine callL rfl (h2) uTS uTS uTS uTS uTS ?_;refine uS ?_
 refine hK _ ?_;clear hK K
 repeat first|refine uC ?_|refine uA1 (uI @e0 (uI @e1 (uI @e2 (uI @e3 (uI @e4 (uI @e5 (uI @e6 @e7))))))) ?_
 repeat refine uA ?_
 refine awp_ret ?_;rw[show Tryz.f11.results.toList=[.cell 4 30] from rfl];(refine(retBs uRG rfl uTC uTC ?_ ?_);all_goals (first|refine uSC ?_|exact uXC|skip))
 try rfl
theorem sp_8 (l:List Int) (a:Nat) (x:Acx) (hf:Fits l) (hx:SmA x) (hc:gN l (a+1) 12=8):SatG Tryz.prog tab 11 (srcC l a) [.ptO 0 0 0 0 0,x.av] (srcC l (spS l a x).2) (spS l a x).1.av:=by
 have h1:=gP_sat l a oddL hf (by decide) (by decide)
 have h2:=gN_sat l (a+1) 12 hf (by decide)
 obtain⟨x1,x2,x3,x4,x5,x6,x7⟩:=hx
 have e0:=uDf (gN l (a+1) 12=0)
 have e1:=uDf (gN l (a+1) 12=1)
 have e2:=uDf (gN l (a+1) 12=2)
 have e3:=uDf (gN l (a+1) 12=3)
 have e4:=uDf (gN l (a+1) 12=4)
 have e5:=uDf (gN l (a+1) 12=5)
 have e6:=uDf (gN l (a+1) 12=6)
 have e7:=uDf (gN l (a+1) 12=7)
 have e8:=uDt (gN l (a+1) 12=8)
 have e9:=uDf (gN l (a+1) 12=9)
 have e10:=uDf (gN l (a+1) 12=10)
 have h3:=gN_sat l (a+2) 8 hf (by decide)
 have h4:=gN_sat l (a+3) 3 hf (by decide)
 unfold spS
 rw[if_neg (by omega:¬gN l (a+1) 12=0),if_neg (by omega:¬gN l (a+1) 12=1),if_neg (by omega:¬gN l (a+1) 12=2),if_neg (by omega:¬gN l (a+1) 12=3),if_neg (by omega:¬gN l (a+1) 12=4),if_neg (by omega:¬gN l (a+1) 12=5),if_neg (by omega:¬gN l (a+1) 12=6),if_neg (by omega:¬gN l (a+1) 12=7),if_pos hc]
 generalize gP l a oddL=od at*
 generalize gN l (a+1) 12=c at*
 generalize gN l (a+2) 8=n3 at*
 generalize gN l (a+3) 3=n4 at*
 have hap:flaws x.mv++[AV.agg [I n3,I od,I n4]]=flaws (x.mv++[⟨n3,od,n4⟩]):=by simp[flaws]
 refine uFN Tryz.func11 Tryz.ntmps11 ?_;intro w e X hC
 repeat refine uA ?_
 refine uR ?_;intro K hK
 refine callL rfl (h1) uTS uTS uTS uTS uTS ?_;refine uS ?_
 refine hK _ ?_;clear hK K
 refine uR ?_;intro K hK
 refine callL rfl (h2) uTS uTS uTS uTS uTS ?_;refine uS ?_
 refine hK _ ?_;clear hK K
 repeat first|refine uC ?_|refine uA1 (uI @e0 (uI @e1 (uI @e2 (uI @e3 (uI @e4 (uI @e5 (uI @e6 (uI @e7 @e8)))))))) ?_
 refine uR ?_;intro K hK
 refine uH ?_
 refine callL rfl (h3) uTS uTS uTS uTS uTS ?_;refine uS ?_
 try refine uS ?_
 refine uH ?_
 refine callL rfl (h4) uTS uTS uTS uTS uTS ?_;refine uS ?_
 try refine uS1 @hap ?_
 refine uH ?_
 refine hK _ ?_;clear hK K
 repeat refine uA ?_
 refine awp_ret ?_;rw[show Tryz.f11.results.toList=[.cell 4 30] from rfl];(refine(retBs uRG rfl uTC uTC ?_ ?_);all_goals (first|refine uSC ?_|exact uXC|skip))
 try rfl
theorem sp_9 (l:List Int) (a:Nat) (x:Acx) (hf:Fits l) (hx:SmA x) (hc:gN l (a+1) 12=9):SatG Tryz.prog tab 11 (srcC l a) [.ptO 0 0 0 0 0,x.av] (srcC l (spS l a x).2) (spS l a x).1.av:=by
 have h1:=gP_sat l a oddL hf (by decide) (by decide)
 have h2:=gN_sat l (a+1) 12 hf (by decide)
 obtain⟨x1,x2,x3,x4,x5,x6,x7⟩:=hx
 have e0:=uDf (gN l (a+1) 12=0)
 have e1:=uDf (gN l (a+1) 12=1)
 have e2:=uDf (gN l (a+1) 12=2)
 have e3:=uDf (gN l (a+1) 12=3)
 have e4:=uDf (gN l (a+1) 12=4)
 have e5:=uDf (gN l (a+1) 12=5)
 have e6:=uDf (gN l (a+1) 12=6)
 have e7:=uDf (gN l (a+1) 12=7)
 have e8:=uDf (gN l (a+1) 12=8)
 have e9:=uDt (gN l (a+1) 12=9)
 have e10:=uDf (gN l (a+1) 12=10)
 have h3:=gN_sat l (a+2) 8 hf (by decide)
 have h4:=gN_sat l (a+3) 3 hf (by decide)
 unfold spS
 rw[if_neg (by omega:¬gN l (a+1) 12=0),if_neg (by omega:¬gN l (a+1) 12=1),if_neg (by omega:¬gN l (a+1) 12=2),if_neg (by omega:¬gN l (a+1) 12=3),if_neg (by omega:¬gN l (a+1) 12=4),if_neg (by omega:¬gN l (a+1) 12=5),if_neg (by omega:¬gN l (a+1) 12=6),if_neg (by omega:¬gN l (a+1) 12=7),if_neg (by omega:¬gN l (a+1) 12=8),if_pos hc]
 generalize gP l a oddL=od at*
 generalize gN l (a+1) 12=c at*
 generalize gN l (a+2) 8=n3 at*
 generalize gN l (a+3) 3=n4 at*
 have hap:flaws x.gl++[AV.agg [I n3,I n4,I od]]=flaws (x.gl++[⟨n3,n4,od⟩]):=by simp[flaws]
 refine uFN Tryz.func11 Tryz.ntmps11 ?_;intro w e X hC
 repeat refine uA ?_
 refine uR ?_;intro K hK
 refine callL rfl (h1) uTS uTS uTS uTS uTS ?_;refine uS ?_
 refine hK _ ?_;clear hK K
 refine uR ?_;intro K hK
 refine callL rfl (h2) uTS uTS uTS uTS uTS ?_;refine uS ?_
 refine hK _ ?_;clear hK K
 repeat first|refine uC ?_|refine uA1 (uI @e0 (uI @e1 (uI @e2 (uI @e3 (uI @e4 (uI @e5 (uI @e6 (uI @e7 (uI @e8 @e9))))))))) ?_
 refine uR ?_;intro K hK
 refine uH ?_
 refine callL rfl (h3) uTS uTS uTS uTS uTS ?_;refine uS ?_
 try refine uS ?_
 refine uH ?_
 refine callL rfl (h4) uTS uTS uTS uTS uTS ?_;refine uS ?_
 try refine uS1 @hap ?_
 refine uH ?_
 refine hK _ ?_;clear hK K
 repeat refine uA ?_
 refine awp_ret ?_;rw[show Tryz.f11.results.toList=[.cell 4 30] from rfl];(refine(retBs uRG rfl uTC uTC ?_ ?_);all_goals (first|refine uSC ?_|exact uXC|skip))
 try rfl
theorem sp_10 (l:List Int) (a:Nat) (x:Acx) (hf:Fits l) (hx:SmA x) (hc:gN l (a+1) 12=10):SatG Tryz.prog tab 11 (srcC l a) [.ptO 0 0 0 0 0,x.av] (srcC l (spS l a x).2) (spS l a x).1.av:=by
 have h1:=gP_sat l a oddL hf (by decide) (by decide)
 have h2:=gN_sat l (a+1) 12 hf (by decide)
 obtain⟨x1,x2,x3,x4,x5,x6,x7⟩:=hx
 have e0:=uDf (gN l (a+1) 12=0)
 have e1:=uDf (gN l (a+1) 12=1)
 have e2:=uDf (gN l (a+1) 12=2)
 have e3:=uDf (gN l (a+1) 12=3)
 have e4:=uDf (gN l (a+1) 12=4)
 have e5:=uDf (gN l (a+1) 12=5)
 have e6:=uDf (gN l (a+1) 12=6)
 have e7:=uDf (gN l (a+1) 12=7)
 have e8:=uDf (gN l (a+1) 12=8)
 have e9:=uDf (gN l (a+1) 12=9)
 have e10:=uDt (gN l (a+1) 12=10)
 unfold spS
 rw[if_neg (by omega:¬gN l (a+1) 12=0),if_neg (by omega:¬gN l (a+1) 12=1),if_neg (by omega:¬gN l (a+1) 12=2),if_neg (by omega:¬gN l (a+1) 12=3),if_neg (by omega:¬gN l (a+1) 12=4),if_neg (by omega:¬gN l (a+1) 12=5),if_neg (by omega:¬gN l (a+1) 12=6),if_neg (by omega:¬gN l (a+1) 12=7),if_neg (by omega:¬gN l (a+1) 12=8),if_neg (by omega:¬gN l (a+1) 12=9),if_pos hc]
 generalize gP l a oddL=od at*
 generalize gN l (a+1) 12=c at*
 refine uFN Tryz.func11 Tryz.ntmps11 ?_;intro w e X hC
 repeat refine uA ?_
 refine uR ?_;intro K hK
 refine callL rfl (h1) uTS uTS uTS uTS uTS ?_;refine uS ?_
 refine hK _ ?_;clear hK K
 refine uR ?_;intro K hK
 refine callL rfl (h2) uTS uTS uTS uTS uTS ?_;refine uS ?_
 refine hK _ ?_;clear hK K
 repeat first|refine uC ?_|refine uA1 (uI @e0 (uI @e1 (uI @e2 (uI @e3 (uI @e4 (uI @e5 (uI @e6 (uI @e7 (uI @e8 (uI @e9 @e10)))))))))) ?_
 repeat refine uA ?_
 refine awp_ret ?_;rw[show Tryz.f11.results.toList=[.cell 4 30] from rfl];(refine(retBs uRG rfl uTC uTC ?_ ?_);all_goals (first|refine uSC ?_|exact uXC|skip))
 try rfl
theorem sp_11 (l:List Int) (a:Nat) (x:Acx) (hf:Fits l) (hx:SmA x) (hc:11<=gN l (a+1) 12):SatG Tryz.prog tab 11 (srcC l a) [.ptO 0 0 0 0 0,x.av] (srcC l (spS l a x).2) (spS l a x).1.av:=by
 have h1:=gP_sat l a oddL hf (by decide) (by decide)
 have h2:=gN_sat l (a+1) 12 hf (by decide)
 obtain⟨x1,x2,x3,x4,x5,x6,x7⟩:=hx
 have e0:=uDf (gN l (a+1) 12=0)
 have e1:=uDf (gN l (a+1) 12=1)
 have e2:=uDf (gN l (a+1) 12=2)
 have e3:=uDf (gN l (a+1) 12=3)
 have e4:=uDf (gN l (a+1) 12=4)
 have e5:=uDf (gN l (a+1) 12=5)
 have e6:=uDf (gN l (a+1) 12=6)
 have e7:=uDf (gN l (a+1) 12=7)
 have e8:=uDf (gN l (a+1) 12=8)
 have e9:=uDf (gN l (a+1) 12=9)
 have e10:=uDf (gN l (a+1) 12=10)
 have h3:=gP_sat l (a+2) airL hf (by decide) (by decide)
 unfold spS
 rw[if_neg (by omega:¬gN l (a+1) 12=0),if_neg (by omega:¬gN l (a+1) 12=1),if_neg (by omega:¬gN l (a+1) 12=2),if_neg (by omega:¬gN l (a+1) 12=3),if_neg (by omega:¬gN l (a+1) 12=4),if_neg (by omega:¬gN l (a+1) 12=5),if_neg (by omega:¬gN l (a+1) 12=6),if_neg (by omega:¬gN l (a+1) 12=7),if_neg (by omega:¬gN l (a+1) 12=8),if_neg (by omega:¬gN l (a+1) 12=9),if_neg (by omega:¬gN l (a+1) 12=10)]
 generalize gP l a oddL=od at*
 generalize gN l (a+1) 12=c at*
 generalize gP l (a+2) airL=n3 at*
 refine uFN Tryz.func11 Tryz.ntmps11 ?_;intro w e X hC
 repeat refine uA ?_
 refine uR ?_;intro K hK
 refine callL rfl (h1) uTS uTS uTS uTS uTS ?_;refine uS ?_
 refine hK _ ?_;clear hK K
 refine uR ?_;intro K hK
 refine callL rfl (h2) uTS uTS uTS uTS uTS ?_;refine uS ?_
 refine hK _ ?_;clear hK K
 repeat first|refine uC ?_|refine uA1 (uI @e0 (uI @e1 (uI @e2 (uI @e3 (uI @e4 (uI @e5 (uI @e6 (uI @e7 (uI @e8 (uI @e9 @e10)))))))))) ?_
 refine uR ?_;intro K hK
 refine callL rfl (h3) uTS uTS uTS uTS uTS ?_;refine uS ?_
 refine uH ?_
 refine hK _ ?_;clear hK K
 repeat refine uA ?_
 refine awp_ret ?_;rw[show Tryz.f11.results.toList=[.cell 4 30] from rfl];(refine(retBs uRG rfl uTC uTC ?_ ?_);all_goals (first|refine uSC ?_|exact uXC|skip))
 try rfl
theorem spoilt_sat (l:List Int) (a:Nat) (x:Acx) (hf:Fits l) (hx:SmA x):SatG Tryz.prog tab 11 (srcC l a) [.ptO 0 0 0 0 0,x.av] (srcC l (spS l a x).2) (spS l a x).1.av:=by
 have b:=gN_lt (l:=l) (a:=a+1) (n:=12) (by decide)
 by_cases c0:gN l (a+1) 12=0
 ·exact sp_0 l a x hf hx c0
 by_cases c1:gN l (a+1) 12=1
 ·exact sp_1 l a x hf hx c1
 by_cases c2:gN l (a+1) 12=2
 ·exact sp_2 l a x hf hx c2
 by_cases c3:gN l (a+1) 12=3
 ·exact sp_3 l a x hf hx c3
 by_cases c4:gN l (a+1) 12=4
 ·exact sp_4 l a x hf hx c4
 by_cases c5:gN l (a+1) 12=5
 ·exact sp_5 l a x hf hx c5
 by_cases c6:gN l (a+1) 12=6
 ·exact sp_6 l a x hf hx c6
 by_cases c7:gN l (a+1) 12=7
 ·exact sp_7 l a x hf hx c7
 by_cases c8:gN l (a+1) 12=8
 ·exact sp_8 l a x hf hx c8
 by_cases c9:gN l (a+1) 12=9
 ·exact sp_9 l a x hf hx c9
 by_cases c10:gN l (a+1) 12=10
 ·exact sp_10 l a x hf hx c10
 exact sp_11 l a x hf hx (by omega)
open Go.Scr
theorem cut2_fits {l:List Int} (hr:∀x∈l,I64 x):Fits (cut2 l):=⟨by rw[cut2,List.length_take];omega,fun x hx=>hr x (List.mem_of_mem_take hx)⟩
open Go.Scr
structure SzA (n t:Nat) (x:Acx):Prop where
 mv:x.mv.length<=n
 gl:x.gl.length<=n
 tx:x.txt.length<=t
 rc:x.rev.flt.car.length<=50
 rs:x.rev.flt.suf.length<=50
 fc:x.flt.car.length<=50
 fs:x.flt.suf.length<=50
theorem SzA.a {n t:Nat} {x:Acx} (h:SzA n t x) (hn:n<=1000) (ht:t<=1000000):SmA x:=by
 obtain⟨h1,h2,h3,h4,h5,h6,h7⟩:=h
 exact⟨by omega,by omega,by omega,by omega,by omega,by omega,by omega⟩
theorem SmS.sz {x:Acx} (h:SmS x):SzA 30 500 x:=⟨h.1,h.2.1,h.2.2.1,h.2.2.2.2.2.1,h.2.2.2.2.2.2,h.2.2.2.1,h.2.2.2.2.1⟩
theorem SmQ.sz {x:Acx} (h:SmQ x):SzA 1 200 x:=by
 obtain⟨h1,h2,h3,_,h4,h5,h6,h7⟩:=h
 exact⟨h1,h2,h3,by omega,by omega,by omega,by omega⟩
theorem SzA.sp {n t:Nat} {x:Acx} (h:SzA n t x) (l:List Int) (a:Nat):SzA (n+1) (t+1) (spS l a x).1:=by
 obtain⟨h1,h2,h3,h4,h5,h6,h7⟩:=h
 have ht:=spt_len l (a+2)
 have z:∀{k nd im dv cn am:Int} {p:Plt} {c o:Bool},SzA (n+1) (t+1) {x with k:=k,node:=nd,img:=im,dev:=dv,con:=cn,plt:=p,clr:=c,lost:=o,rev:={x.rev with amt:=am}}:=⟨by show x.mv.length<=_;omega,by show x.gl.length<=_;omega,by show x.txt.length<=_;omega,h4,h5,h6,h7⟩
 unfold spS
 generalize gN l (a+1) 12=c
 by_cases c0:c=0
 ·rw[if_pos c0]
  exact z
 rw[if_neg c0]
 by_cases c1:c=1
 ·rw[if_pos c1]
  exact z
 rw[if_neg c1]
 by_cases c2:c=2
 ·rw[if_pos c2]
  exact z
 rw[if_neg c2]
 by_cases c3:c=3
 ·rw[if_pos c3]
  exact z
 rw[if_neg c3]
 by_cases c4:c=4
 ·rw[if_pos c4]
  exact z
 rw[if_neg c4]
 by_cases c5:c=5
 ·rw[if_pos c5]
  exact⟨by show x.mv.length<=_;omega,by show x.gl.length<=_;omega,by show(x.txt++_).length<=_;rw[List.length_append];omega,h4,h5,h6,h7⟩
 rw[if_neg c5]
 by_cases c6:c=6
 ·rw[if_pos c6]
  exact z
 rw[if_neg c6]
 by_cases c7:c=7
 ·rw[if_pos c7]
  exact z
 rw[if_neg c7]
 by_cases c8:c=8
 ·rw[if_pos c8]
  exact⟨by show(x.mv++_).length<=_;rw[List.length_append,List.length_singleton];omega,by show x.gl.length<=_;omega,by show x.txt.length<=_;omega,h4,h5,h6,h7⟩
 rw[if_neg c8]
 by_cases c9:c=9
 ·rw[if_pos c9]
  exact⟨by show x.mv.length<=_;omega,by show(x.gl++_).length<=_;rw[List.length_append,List.length_singleton];omega,by show x.txt.length<=_;omega,h4,h5,h6,h7⟩
 rw[if_neg c9]
 by_cases c10:c=10
 ·rw[if_pos c10]
  exact z
 rw[if_neg c10]
 exact z
theorem SzA.only {n t:Nat} {x:Acx} (h:SzA n t x):SzA n t (only x):=by
 obtain⟨h1,h2,h3,h4,h5,h6,h7⟩:=h
 have z:∀{k nd im dv cn:Int} {p:Plt} {c:Bool},SzA n t {A0 k with plt:=p,node:=nd,img:=im,dev:=dv,con:=cn,clr:=c}:=⟨Nat.zero_le _,Nat.zero_le _,Nat.zero_le _,Nat.zero_le _,Nat.zero_le _,Nat.zero_le _,Nat.zero_le _⟩
 unfold Scr.only
 split
 ·exact⟨h1,h2,Nat.zero_le _,Nat.zero_le _,Nat.zero_le _,Nat.zero_le _,Nat.zero_le _⟩
 split
 ·exact z
 split
 ·exact⟨Nat.zero_le _,Nat.zero_le _,h3,Nat.zero_le _,Nat.zero_le _,Nat.zero_le _,Nat.zero_le _⟩
 split
 ·exact z
 split
 ·exact⟨Nat.zero_le _,Nat.zero_le _,Nat.zero_le _,h4,h5,Nat.zero_le _,Nat.zero_le _⟩
 iterate 4
  split
  ·exact z
 split
 ·exact⟨Nat.zero_le _,Nat.zero_le _,Nat.zero_le _,Nat.zero_le _,Nat.zero_le _,h6,h7⟩
 ·exact z
theorem only_txt {x:Acx} (h:x.k≠3):(only x).txt=[]:=by
 unfold Scr.only
 repeat' (first|rfl|exact absurd (by assumption) h|split)
theorem line_bd {n t:Nat} {x:Acx} (h:SzA n t x) (ht:20<=t) {s:Bs} (hl:lineS x=some s):s.length<=(2*n+8)*(t+1)/\s.count 32<=2*n+8+t:=by
 have ho:x=only x:=by
  unfold lineS at hl
  split at hl
  ·rename_i hc;exact hc.2.2.1
  ·cases hl
 rw[line_eq hl]
 have h1:=wAct_len ([],false) x
 have h2:=h.mv
 have h3:=h.gl
 have h4:=Bd.act (m:=t) ht (w:=([],false)) (fun s hs=>by cases hs) x h.tx
 have h5:=join_len h4
 have h6:(wAct ([],false) x).1.length<=2*n+8:=by simp only[List.length_nil] at h1;omega
 refine⟨Nat.le_trans h5 (Nat.mul_le_mul_right _ h6),?_⟩
 by_cases k3:x.k=3
 ·have hw:(wAct ([],false) x).1=[sMessage,swapB 10 124 x.txt]:=by
   unfold wAct
   rw[if_neg (by omega),if_neg (by omega),if_pos k3]
   rfl
  rw[hw,join2,List.count_append,List.count_cons_self]
  have c1:sMessage.count 32=0:=by decide
  have c2:(swapB 10 124 x.txt).count 32<=(swapB 10 124 x.txt).length:=List.count_le_length
  rw[swapB_length] at c2
  have:=h.tx
  omega
 ·have hno:(32:UInt8)∉swapB 10 124 x.txt:=by
   rw[ho,only_txt k3]
   simp[swapB]
  have h7:=Nc.act (.inr rfl) (w:=([],false)) (fun s hs=>by cases hs) x hno
  by_cases h0:(wAct ([],false) x).1=[]
  ·rw[h0];show([]:Bs).count 32<=_;simp
  ·have h9:=splitL_length 32 (Lib.join (wAct ([],false) x).1 [32])
   rw[splitL_join 32 h0 h7] at h9
   omega
theorem count_set {c b:UInt8}:∀{s:Bs} {i:Nat},(s.set i b).count c<=s.count c+1
 |[],_=>by simp
 |x::s,0=>by
  rw[List.set_cons_zero,List.count_cons,List.count_cons]
  split<;>split<;>omega
 |x::s,i+1=>by
  have:=count_set (c:=c) (b:=b) (s:=s) (i:=i)
  rw[List.set_cons_succ,List.count_cons,List.count_cons]
  omega
def lineO (x:Acx):Bs:=(lineS x).getD []
theorem lineO_bd {n t:Nat} {x:Acx} (h:SzA n t x) (ht:20<=t):(lineO x).length<=(2*n+8)*(t+1)/\(lineO x).count 32<=2*n+8+t:=by
 unfold lineO
 cases hl:lineS x with
 |none=>exact⟨Nat.zero_le _,Nat.zero_le _⟩
 |some s=>exact line_bd h ht hl
def lls (L:List (List Acx)):List AV:=L.map fun a=> .sl (acts a) false
theorem lls_length (L:List (List Acx)):(lls L).length=L.length:=by simp[lls]
theorem PE_lls (L:List (List Acx)):PE (lls L)=True:=by
 refine eq_true fun e he c hc=>?_
 simp only[lls,List.mem_map] at he
 obtain⟨x,_,rfl⟩:=he
 simp only[AV.cells,List.mem_singleton] at hc
 subst hc;rfl
theorem all_lls {L:List (List Acx)}:(∀y∈lls L,y.cells.length=1)=True:=by
 refine eq_true fun e he=>?_
 simp only[lls,List.mem_map] at he
 obtain⟨x,_,rfl⟩:=he
 rfl
attribute [go_sem] lls_length PE_lls all_lls
theorem byts_setU {s:Bs} {i:Nat} {b:UInt8}:(byts s).set i (Uc b)=byts (s.set i b):=by
 simp[byts,List.map_set,byteE]
open Go.Scr
def firstL:List Bs:=[[116,105,99,107],[105,110,100,117,99,116],[109,101,115,115,97,103,101],[118,101,114,100,105,99,116],[100,101,108,97,121],[111,112,101,110,115],[115,116,97,110,100],[99,97,110,99,101,108],[114,101,115,116,111,114,101],[98,114,101,97,107],[114,101,112,97,105,114],[108,111,97,100],[117,110,108,111,97,100],[112,105,99,107],[111,102,102,108,105,110,101],[111,110,108,105,110,101],[100,101,112,97,114,116],[99,114,97,115,104]]
theorem first_len (l:List Int) (a:Nat):(gT l a firstL).length<=7/\(gT l a firstL).count 32=0:=by
 unfold gT
 have hb:=gN_lt (l:=l) (a:=a) (n:=firstL.length) (by decide)
 have h6:(firstL.length:Int)=18:=rfl
 generalize gN l a firstL.length=m at*
 obtain⟨k,hk⟩:∃k:Nat,m=k:=⟨m.toNat,by omega⟩
 subst hk
 have hk:k<18:=by omega
 have hall:∀j:Fin 18,(firstL.getD j []).length<=7/\(firstL.getD j []).count 32=0:=by decide
 exact hall ⟨k,hk⟩
theorem SzA.mono {n t n' t':Nat} {x:Acx} (h:SzA n t x) (hn:n<=n') (ht:t<=t'):SzA n' t' x:=by
 obtain⟨h1,h2,h3,h4,h5,h6,h7⟩:=h
 exact⟨by omega,by omega,by omega,h4,h5,h6,h7⟩
theorem lines_law (raw:Acx) (text:Bs) (l:List Int) (at':Int) (by':UInt8) (h0:MxA raw) (ht:text.length<=9223372036854775807) (hl:l.length<=9223372036854775807) (hr:∀x∈l,I64 x) (ha:I64 at'):
  SatG Tryz.prog tab 3 [] [raw.av,S (strOf text),IS l,I at',Uc by'] [] (B true):=by
 have hnew:=new_sat l hl
 have hf:=cut2_fits hr
 generalize hlq:cut2 l=lq at*
 have gs:=gA_sat lq 0 0 hf
 have os:=gA_sm lq 0
 generalize gA lq 0=y at*
 obtain⟨y,a1⟩:=y
 simp only at gs os
 have gp1:=spoilt_sat lq a1 y hf os.a
 have op1:=os.sz.sp lq a1
 generalize spS lq a1 y=z1 at*
 obtain⟨z1,a2⟩:=z1
 simp only at gp1 op1
 have gp2:=spoilt_sat lq a2 y hf os.a
 have op2:=os.sz.sp lq a2
 generalize spS lq a2 y=z2 at*
 obtain⟨z2,a3⟩:=z2
 simp only at gp2 op2
 have gp3:=spoilt_sat lq a3 z2 hf (op2.a (by decide) (by decide))
 have op3:=op2.sp lq a3
 generalize spS lq a3 z2=z3 at*
 obtain⟨z3,a4⟩:=z3
 simp only at gp3 op3
 have g1:=lsmall_sat raw h0
 have go:=only_sat raw
 have haw:=awake_sat
 refine uFN Tryz.func3 Tryz.ntmps3 ?_;intro w e X hC
 refine uA ?_
 by_cases c1:SmS raw
 rotate_left
 ·rw[decide_eq_false c1] at g1
  refine uR ?_;intro K hK
  refine uH ?_
  refine callF uTS (g1) uTS uTS uTS ?_;refine uS ?_
  try refine uS ?_
  refine uH ?_
  refine hK _ ?_;clear hK K
  refine uT ?_
  repeat refine uA ?_
  (refine awp_ret (ret1 uRT ?_);try rfl)
 rw[decide_eq_true c1] at g1
 by_cases c2:300<text.length
 ·have e2:=uDt (300<(text.length:Int))
  refine uR1 @e2 ?_;intro K hK
  refine uH ?_
  refine callF uTS (g1) uTS uTS uTS ?_;refine uS ?_
  try refine uS1 @e2 ?_
  refine uH ?_
  refine hK _ ?_;clear hK K
  refine uT ?_
  repeat refine uA ?_
  (refine awp_ret (ret1 uRT ?_);try rfl)
 have e2:=uDf (300<(text.length:Int))
 refine uR1 @e2 ?_;intro K hK
 refine uH ?_
 refine callF uTS (g1) uTS uTS uTS ?_;refine uS ?_
 try refine uS1 @e2 ?_
 refine uH ?_
 refine hK _ ?_;clear hK K
 refine uF ?_
 refine uR ?_;intro K hK
 refine callE [] [(139,12,100,1)] false (hnew) uTR uTR uTE uTE uTE uTE uTE uTE uTE uTE uTE uTE uTE uTE uTE uTE uTE ?_;refine uQS ?_
 refine hK _ ?_;clear hK K
 refine awp_weak (s':=⟨[(1,S (strOf text)),(3,I at'),(4,Uc by'),(5, .ptO 105 1 0 0 0),(11, .ptO 139 12 0 0 0)],(139,some (12, .box [IS lq,I (min 0 lq.length:Nat)]))::(105,some (1, .box (AV.cells raw.av)))::[],_⟩) (.of (Nat.le_refl _) (uHF1 (uI @Nat.zero_min @Int.natCast_zero)) uWF) ?_
 refine uR ?_;intro K hK
 refine callL rfl (gs) uTS uTS uTS uTS uTS ?_;refine uS ?_
 refine uH ?_
 refine hK _ ?_;clear hK K
 refine uA ?_
 refine uD ?_;intro K hK
 refine uH ?_
 refine callP uTS (go) uTS uTS uTS ?_;refine uS ?_
 try refine uS ?_
 refine uH ?_
 refine callL rfl (gp1) uTS uTS uTS uTS uTS ?_;refine uS ?_
 try refine uS ?_
 refine uH ?_
 refine callL rfl (gp2) uTS uTS uTS uTS uTS ?_;refine uS ?_
 try refine uS ?_
 refine uH ?_
 refine callL rfl (gp3) uTS uTS uTS uTS uTS ?_;refine uS ?_
 try refine uS ?_
 refine uH ?_
 refine hK _ ?_;clear hK K
 refine awp_weak (s':=⟨[(1,S (strOf text)),(3,I at'),(4,Uc by'),(11, .ptO 139 12 0 0 0),(12, .ptO 112 16 0 0 0),(13, .slO 143 19 0 1),(56, .sl [raw.av,(only raw).av,y.av,z1.av,z3.av] false),(57,I 5),(58,I 0)],(143,some (19, .own 9 1 [S (strOf text)]))::(139,some (12, .box [IS lq,I (min a4 lq.length:Nat)]))::(112,some (16, .box (AV.cells y.av)))::[],_⟩) (uKF) ?_
 obtain⟨X,hX⟩:∃X:List Acx,X=[raw,only raw,y,z1,z3]:=⟨_,rfl⟩
 have eX:([raw.av,(only raw).av,y.av,z1.av,z3.av]:List AV)=acts X:=by rw[hX];rfl
 have hXl:X.length=5:=by rw[hX];rfl
 have hXs:∀x∈X,SzA 30 500 x:=fun x hx=>by
  rw[hX] at hx
  simp only[List.mem_cons,List.not_mem_nil,or_false] at hx
  rcases hx with rfl|rfl|rfl|rfl|rfl
  ·exact c1.sz
  ·exact c1.sz.only
  ·exact os.sz.mono (by decide) (by decide)
  ·exact op1.mono (by decide) (by decide)
  ·exact op3.mono (by decide) (by decide)
 have oy:=lineO_bd os.sz (by decide)
 have gy:SatG Tryz.prog tab 13 [] [y.av] [] (.tup [S (strOf (lineO y)),I (if(lineS y).isSome then 0 else 3)]):=rline_sat y os.a
 generalize (if(lineS y).isSome then 0 else 3:Int)=ey at*
 generalize hln:lineO y=ln at*
 rw[eX]
 clear eX hX gp1 gp2 gp3 op1 op2 op3 gs go g1 c1
 refine uW ?_
 refine awp_loopW (fun i:Nat×Nat=>⟨[(1,S (strOf text)),(3,I at'),(4,Uc by'),(11, .ptO 139 12 0 0 0),(12, .ptO 112 16 0 0 0),(13, .slO 143 19 0 (i.2+1)),(56, .sl (acts X) false),(57,I 5),(58,I i.2)],(143,some (19, .own 9 1 (strs (text::(X.take i.2).map lineO))))::(139,some (12, .box [IS lq,I (min a4 lq.length:Nat)]))::(112,some (16, .box (AV.cells y.av)))::[],i.1⟩) (fun i=>i.2<=5) (fun i=>5 - i.2) (_,0) (Nat.zero_le _) (uKF) ?_
 rintro⟨ck,i⟩ hi
 simp only at hi
 have hal:(acts X).length=5:=by rw[acts_length,hXl]
 have hsl:(strs (text::(X.take i).map lineO)).length=i+1:=by rw[strs_length,List.length_cons,List.length_map,List.length_take];omega
 refine uA ?_
 refine uW ?_;refine condP _ rfl (fun h=>?_) (fun h=>?_)
 ·have hlt:i<X.length:=by omega
  have hag:=acts_getD hlt
  have hm:X.getD i default∈X:=by rw[List.getD_eq_getElem?_getD,List.getElem?_eq_getElem hlt];exact List.getElem_mem hlt
  have hst:strs (text::(X.take i).map lineO)++[S (strOf (lineO (X.getD i default)))]=strs (text::(X.take (i+1)).map lineO):=by
   have:X.take (i+1)=X.take i++[X.getD i default]:=by
    rw[List.take_succ,List.getElem?_eq_getElem hlt,List.getD_eq_getElem?_getD,List.getElem?_eq_getElem hlt];rfl
   rw[this]
   simp[strs]
  have sx:=(hXs _ hm).a (by decide) (by decide)
  generalize X.getD i default=x at*
  have k1:SatG Tryz.prog tab 12 [] [x.av] [] (.tup [S (strOf (lineO x)),I (if(lineS x).isSome then 0 else 3)]):=line_sat x sx
  have k2:SatG Tryz.prog tab 13 [] [x.av] [] (.tup [S (strOf (lineO x)),I (if(lineS x).isSome then 0 else 3)]):=rline_sat x sx
  generalize (if(lineS x).isSome then 0 else 3:Int)=ex at*
  generalize lineO x=lx at*
  refine uA1 (uI @hag @hal) ?_
  refine uR ?_;intro K hK
  refine uH ?_
  refine callF uTS (k1) uTS uTS uTS ?_;refine uS ?_
  refine uH ?_
  refine hK _ ?_;clear hK K
  refine uR ?_;intro K hK
  refine uH ?_
  refine callF uTS (k2) uTS uTS uTS ?_;refine uS ?_
  refine uH ?_
  refine hK _ ?_;clear hK K
  refine uA ?_
  refine uF ?_
  repeat refine uA1 (uI @hst @hsl) ?_
  refine⟨(_,i+1),by simp only;omega,by simp only;omega,uKF⟩
 ·refine awp_exit ?_
  have:i=5:=by omega
  subst this
  have hX5:X.take 5=X:=List.take_of_length_le (by omega)
  rw[hX5] at hsl ⊢
  refine uR ?_;intro K hK
  refine uH ?_
  refine callF uTS (gy) uTS uTS uTS ?_;refine uS ?_
  refine uH ?_
  refine hK _ ?_;clear hK K
  refine uA ?_
  obtain⟨bt,hbt⟩:∃b,b=ln.set (modI at' ln.length).toNat by':=⟨_,rfl⟩
  have hbl:bt.length=ln.length:=by rw[hbt,List.length_set]
  have cB:bt.count 32<=211:=by rw[hbt];exact Nat.le_trans count_set (by omega)
  refine awp_seq ?_
  refine awp_merge (fun q:Nat=>⟨[(1,S (strOf text)),(11, .ptO 139 12 0 0 0),(13, .slO 143 19 0 6),(20,S (strOf ln)),(22, .slO 191 (ck+9) 0 ln.length)],(191,some (ck+9, .own 5 1 (byts bt)))::(143,some (19, .own 9 1 (strs (text::X.map lineO))))::(139,some (12, .box [IS lq,I (min a4 lq.length:Nat)]))::[],q⟩) (fun _=>True) ?_ ?_
  ·by_cases hz:ln.length=0
   ·have hz1:ln=[]:=List.eq_nil_of_length_eq_zero hz
    have hz2:bt=[]:=by rw[hbt,hz1];rfl
    have e5:=uDf (0<(ln.length:Int))
    have hb0:byts bt=ln.map byteE:=by rw[hz2,hz1];rfl
    rw[hb0]
    repeat refine uA1 @e5 ?_
    refine uF ?_
    refine uW ?_
    refine⟨_,trivial,uKF⟩
   ·have e5:=uDt (0<(ln.length:Int))
    have g4:=mod_sat at' ln.length ha (by omega)
    have b4:=modI_lt (x:=at') (n:=ln.length) (by omega)
    rw[hbt]
    have e6:(ln.map byteE).set (modI at' ln.length).toNat (Uc by')=byts (ln.set (modI at' ln.length).toNat by'):=byts_setU
    generalize modI at' ln.length=mi at*
    have hml:(ln.map byteE).length=ln.length:=by simp
    have hmi:mi.toNat<ln.length:=by omega
    refine uA1 @e5 ?_
    refine uT ?_
    refine uR ?_;intro K hK
    refine uH ?_
    refine callF uTS (g4) uTS uTS uTS ?_;refine uS ?_
    try refine uS1 (uI @e6 @hml) ?_
    refine uH ?_
    refine hK _ ?_;clear hK K
    refine uW ?_
    refine⟨_,trivial,uKF⟩
  rintro q2 -
  have gt:=gT_sat lq a4 firstL hf (by decide) (by decide)
  have bf:=first_len lq a4
  generalize gT lq a4 firstL=fi at*
  refine uR1 @str_mk ?_;intro K hK
  refine callL rfl (gt) uTS uTS uTS uTS uTS ?_;refine uS ?_
  try refine uS1 @str_mk ?_
  refine uH ?_
  refine hK _ ?_;clear hK K
  have hsl2:(strs (text::X.map lineO)).length=6:=by rw[strs_length,List.length_cons,List.length_map,hXl]
  obtain⟨W,hW⟩:∃W:List Bs,W=(text::X.map lineO)++[bt,ln++[32],ln++[32,49],fi++[32]++text,fi,fi++[32,48,32,48,49,49,55,48,48,49,48,48,48],[116,105,99,107,32,108,111,115,116,32,108,111,115,116],[116,105,99,107,32,109,105,115,115,58,48,58,48,32,108,111,115,116],[116,105,99,107,32,32,108,111,115,116]]:=⟨_,rfl⟩
  have eW:strs (text::X.map lineO)++[S (strOf (bt)),S (strOf (ln++[32])),S (strOf (ln++[32,49])),S (strOf (fi++[32]++text)),S (strOf (fi)),S (strOf (fi++[32,48,32,48,49,49,55,48,48,49,48,48,48])),S (strOf ([116,105,99,107,32,108,111,115,116,32,108,111,115,116])),S (strOf ([116,105,99,107,32,109,105,115,115,58,48,58,48,32,108,111,115,116])),S (strOf ([116,105,99,107,32,32,108,111,115,116]))]=strs W:=by rw[hW];simp[strs]
  have hWl:W.length=15:=by rw[hW,List.length_append,List.length_cons,List.length_map,hXl];rfl
  have hWf:∀x∈W,x.length<=900000/\x.count 32<=999:=fun x hx=>by
   rw[hW] at hx
   have q1:text.count 32<=text.length:=List.count_le_length
   rcases List.mem_append.1 hx with hx|hx
   ·rcases List.mem_cons.1 hx with rfl|hx
    ·exact⟨by omega,by omega⟩
    ·obtain⟨z,hz,rfl⟩:=List.mem_map.1 hx
     have:=lineO_bd (hXs z hz) (by decide)
     exact⟨by omega,by omega⟩
   ·simp only[List.mem_cons,List.not_mem_nil,or_false] at hx
    have k1:List.count 32 ([32]:Bs)=1:=rfl
    have k2:List.count 32 ([32,49]:Bs)=1:=rfl
    have k3:List.count 32 ([32,48,32,48,49,49,55,48,48,49,48,48,48]:Bs)=2:=rfl
    rcases hx with rfl|rfl|rfl|rfl|rfl|rfl|rfl|rfl|rfl
    ·exact⟨by omega,by omega⟩
    ·exact⟨by rw[List.length_append,List.length_singleton];omega,by rw[List.count_append,k1];omega⟩
    ·exact⟨by rw[List.length_append];show _+2<=_;omega,by rw[List.count_append,k2];omega⟩
    ·exact⟨by rw[List.length_append,List.length_append];show _+1+_<=_;omega,by rw[List.count_append,List.count_append,k1];omega⟩
    ·exact⟨by omega,by omega⟩
    ·exact⟨by rw[List.length_append];show _+13<=_;omega,by rw[List.count_append,k3];omega⟩
    ·exact⟨by decide,by decide⟩
    ·exact⟨by decide,by decide⟩
    ·exact⟨by decide,by decide⟩
  have hln1:ln.length<=3000:=by omega
  refine uR1 (uI @str_mk (uI @eW @hsl2)) ?_;intro K hK
  refine uH ?_
  refine hK _ ?_;clear hK K
  refine uA ?_
  refine awp_weak (s':=⟨[(121, .sl (strs W) false),(122,I 15),(123,I 0)],[],_⟩) (.of (Nat.le_refl _) (uHF1 @hWl) (uWF1 @hWl)) ?_
  clear eW hW
  refine uW ?_
  refine awp_loopW (fun i:Nat×Nat=>⟨[(121, .sl (strs W) false),(122,I 15),(123,I i.2)],[],i.1⟩) (fun i=>i.2<=15) (fun i=>15 - i.2) (_,0) (Nat.zero_le _) (uKF) ?_
  rintro⟨ck3,i⟩ hi
  simp only at hi
  have hsl:(strs W).length=15:=by rw[strs_length,hWl]
  refine uA ?_
  refine uW ?_;refine condP _ rfl (fun h4=>?_) (fun h4=>?_)
  ·have hlt:i<W.length:=by omega
   have hget:(strs W).getD i .bad=S (strOf (W.getD i [])):=strs_getD hlt
   have hm:W.getD i []∈W:=by rw[List.getD_eq_getElem?_getD,List.getElem?_eq_getElem hlt];exact List.getElem_mem hlt
   obtain⟨b1,b2⟩:=hWf _ hm
   have g1:=parseline_sat _ (Nat.le_trans b1 (by decide)) b2
   have g2:=rparseline_sat _ b1 b2
   have sm:SmA ((parseS (W.getD i [])).getD (A0 0)):=by
    cases hp:parseS (W.getD i []) with
    |none=>exact SmA.zero
    |some x=>
     unfold parseS at hp
     split at hp
     ·injection hp with hp
      rw[<-hp]
      have hle:(splitL 32 (W.getD i [])).length<=1000:=by rw[splitL_length];omega
      exact act_sm (r:=rd0 (W.getD i [])) hle (by show(W.getD i []).length<=_;omega)
     ·cases hp
   have s1:=rsame_sat ((parseS (W.getD i [])).getD (A0 0)) ((parseS (W.getD i [])).getD (A0 0)) (by have:=sm.mv;omega) (by have:=sm.mv;omega) (by have:=sm.gl;omega) (by have:=sm.gl;omega)
   rw[decide_eq_true rfl] at s1
   generalize W.getD i []=t at*
   replace g1:SatG Tryz.prog tab 16 [] [S (strOf t)] [] (.tup [((parseS t).getD (A0 0)).av,I (if(parseS t).isSome then 0 else 3)]):=g1
   replace g2:SatG Tryz.prog tab 17 [] [S (strOf t)] [] (.tup [((parseS t).getD (A0 0)).av,I (if(parseS t).isSome then 0 else 3)]):=g2
   generalize (parseS t).getD (A0 0)=x at*
   generalize (if(parseS t).isSome then 0 else 3:Int)=ev at*
   refine uA1 (uI @hget @hsl) ?_
   refine uR ?_;intro K hK
   refine uH ?_
   refine callP uTS (g1) uTS uTS uTS ?_;refine uS ?_
   refine uH ?_
   refine hK _ ?_;clear hK K
   refine uR ?_;intro K hK
   refine uH ?_
   refine callP uTS (g2) uTS uTS uTS ?_;refine uS ?_
   refine uH ?_
   refine hK _ ?_;clear hK K
   refine uR ?_;intro K hK
   refine uH ?_
   refine callF uTS (s1) uTS uTS uTS ?_;refine uS ?_
   try refine uS ?_
   refine uH ?_
   refine hK _ ?_;clear hK K
   refine uF ?_
   repeat refine uA ?_
   refine⟨(_,i+1),by simp only;omega,by simp only;omega,uKF⟩
  ·refine awp_exit ?_
   refine uR ?_;intro K hK
   refine uH ?_
   refine callF uTS (haw) uTS uTS uTS ?_;refine uS ?_
   refine hK _ ?_;clear hK K
   (refine awp_ret (ret1 uRT ?_);try rfl)
end Go.Proofs.YtokkbonoplbiaaaGreatDoor
