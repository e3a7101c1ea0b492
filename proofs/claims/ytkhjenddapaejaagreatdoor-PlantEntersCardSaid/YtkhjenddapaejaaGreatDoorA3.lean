/- Lemmas towards plantEnters_card: no conditions of their own beyond those that each one states. -/
import Derived.Test.YtkhjenddapaejaaGreatDoorA2
import Derived.Test.YtkhjenddapaejaaGreatDoorRows
set_option linter.all false
set_option linter.unusedSimpArgs false
set_option linter.unusedVariables false
set_option linter.deprecated false
namespace Go.Sym
open Go Go.Great
theorem cells_lit (v:Value):AV.cells (.lit v)=[.lit v]:=rfl
theorem cells_sl (es:List AV) (b:Bool):AV.cells (.sl es b)=[.sl es b]:=rfl
theorem cells_kid (t k:Nat) (es:List AV):AV.cells (.kid t k es)=[.kid t k es]:=rfl
theorem cells_ptI (cs:List AV):AV.cells (.ptI cs)=[.ptI cs]:=rfl
theorem cells_gl (n:Nat):AV.cells (.gl n)=[.gl n]:=rfl
theorem cells_bad:AV.cells (.bad)=[.bad]:=rfl
theorem cells_slO (id g off len:Nat):AV.cells (.slO id g off len)=[.slO id g off len]:=rfl
theorem cells_ptO (id g n i off:Nat):AV.cells (.ptO id g n i off)=[.ptO id g n i off]:=rfl
theorem cells_fn (f:FuncId) (cs:List AV):AV.cells (.fn f cs)=[.fn f cs]:=rfl
theorem cells_agg (cs:List AV):AV.cells (.agg cs)=cs:=rfl
theorem cells_tup (vs:List AV):AV.cells (.tup vs)=[.tup vs]:=rfl
theorem cells_mpO (id g:Nat):AV.cells (.mpO id g)=[.mpO id g]:=rfl
theorem one_lit (v:Value):AV.one (.lit v)=true:=rfl
theorem noKid_lit (v:Value):AV.noKid (.lit v)=true:=rfl
theorem one_sl (es:List AV) (b:Bool):AV.one (.sl es b)=true:=rfl
theorem noKid_sl (es:List AV) (b:Bool):AV.noKid (.sl es b)=true:=rfl
theorem one_kid (t k:Nat) (es:List AV):AV.one (.kid t k es)=true:=rfl
theorem noKid_kid (t k:Nat) (es:List AV):AV.noKid (.kid t k es)=false:=rfl
theorem one_ptI (cs:List AV):AV.one (.ptI cs)=true:=rfl
theorem noKid_ptI (cs:List AV):AV.noKid (.ptI cs)=true:=rfl
theorem one_gl (n:Nat):AV.one (.gl n)=true:=rfl
theorem noKid_gl (n:Nat):AV.noKid (.gl n)=true:=rfl
theorem one_bad:AV.one (.bad)=false:=rfl
theorem noKid_bad:AV.noKid (.bad)=true:=rfl
theorem one_slO (id g off len:Nat):AV.one (.slO id g off len)=true:=rfl
theorem noKid_slO (id g off len:Nat):AV.noKid (.slO id g off len)=true:=rfl
theorem one_ptO (id g n i off:Nat):AV.one (.ptO id g n i off)=true:=rfl
theorem noKid_ptO (id g n i off:Nat):AV.noKid (.ptO id g n i off)=true:=rfl
theorem one_fn (f:FuncId) (cs:List AV):AV.one (.fn f cs)=true:=rfl
theorem noKid_fn (f:FuncId) (cs:List AV):AV.noKid (.fn f cs)=true:=rfl
theorem one_agg (cs:List AV):AV.one (.agg cs)=false:=rfl
theorem noKid_agg (cs:List AV):AV.noKid (.agg cs)=true:=rfl
theorem one_tup (vs:List AV):AV.one (.tup vs)=false:=rfl
theorem noKid_tup (vs:List AV):AV.noKid (.tup vs)=true:=rfl
theorem one_mpO (id g:Nat):AV.one (.mpO id g)=true:=rfl
theorem noKid_mpO (id g:Nat):AV.noKid (.mpO id g)=true:=rfl
theorem mapc_lit (f':AV->AV) (v:Value):mapc f' (.lit v)=f' (.lit v):=rfl
theorem mapc_sl (f':AV->AV) (es:List AV) (b:Bool):mapc f' (.sl es b)=f' (.sl es b):=rfl
theorem mapc_kid (f':AV->AV) (t k:Nat) (es:List AV):mapc f' (.kid t k es)=f' (.kid t k es):=rfl
theorem mapc_ptI (f':AV->AV) (cs:List AV):mapc f' (.ptI cs)=f' (.ptI cs):=rfl
theorem mapc_gl (f':AV->AV) (n:Nat):mapc f' (.gl n)=f' (.gl n):=rfl
theorem mapc_bad (f':AV->AV):mapc f' (.bad)=f' (.bad):=rfl
theorem mapc_slO (f':AV->AV) (id g off len:Nat):mapc f' (.slO id g off len)=f' (.slO id g off len):=rfl
theorem mapc_ptO (f':AV->AV) (id g n i off:Nat):mapc f' (.ptO id g n i off)=f' (.ptO id g n i off):=rfl
theorem mapc_fn (f':AV->AV) (f:FuncId) (cs:List AV):mapc f' (.fn f cs)=f' (.fn f cs):=rfl
theorem mapc_agg (f':AV->AV) (cs:List AV):mapc f' (.agg cs)= .agg (cs.map f'):=rfl
theorem mapc_tup (f':AV->AV) (vs:List AV):mapc f' (.tup vs)=f' (.tup vs):=rfl
theorem mapc_mpO (f':AV->AV) (id g:Nat):mapc f' (.mpO id g)=f' (.mpO id g):=rfl
theorem fz0_lit (hp:Hp) (v:Value):fz 0 hp (.lit v)= .lit v:=rfl
theorem fzP0_lit (hp:Hp) (v:Value):fzP 0 hp (.lit v)=True:=rfl
theorem fzR0_lit (hp:Hp) (v:Value):fzR 0 hp (.lit v)=[]:=rfl
theorem fz0_sl (hp:Hp) (es:List AV) (b:Bool):fz 0 hp (.sl es b)= .sl es false:=rfl
theorem fzP0_sl (hp:Hp) (es:List AV) (b:Bool):fzP 0 hp (.sl es b)=True:=rfl
theorem fzR0_sl (hp:Hp) (es:List AV) (b:Bool):fzR 0 hp (.sl es b)=[]:=rfl
theorem fz0_kid (hp:Hp) (t k:Nat) (es:List AV):fz 0 hp (.kid t k es)= .sl es false:=rfl
theorem fzP0_kid (hp:Hp) (t k:Nat) (es:List AV):fzP 0 hp (.kid t k es)=True:=rfl
theorem fzR0_kid (hp:Hp) (t k:Nat) (es:List AV):fzR 0 hp (.kid t k es)=[]:=rfl
theorem fz0_ptI (hp:Hp) (cs:List AV):fz 0 hp (.ptI cs)= .ptI cs:=rfl
theorem fzP0_ptI (hp:Hp) (cs:List AV):fzP 0 hp (.ptI cs)=True:=rfl
theorem fzR0_ptI (hp:Hp) (cs:List AV):fzR 0 hp (.ptI cs)=[]:=rfl
theorem fz0_gl (hp:Hp) (n:Nat):fz 0 hp (.gl n)= .gl n:=rfl
theorem fzP0_gl (hp:Hp) (n:Nat):fzP 0 hp (.gl n)=True:=rfl
theorem fzR0_gl (hp:Hp) (n:Nat):fzR 0 hp (.gl n)=[]:=rfl
theorem fz0_bad (hp:Hp):fz 0 hp (.bad)= .bad:=rfl
theorem fzP0_bad (hp:Hp):fzP 0 hp (.bad)=False:=rfl
theorem fzR0_bad (hp:Hp):fzR 0 hp (.bad)=[]:=rfl
theorem fz0_slO (hp:Hp) (id g off len:Nat):fz 0 hp (.slO id g off len)= .slO id g off len:=rfl
theorem fzP0_slO (hp:Hp) (id g off len:Nat):fzP 0 hp (.slO id g off len)=False:=rfl
theorem fzR0_slO (hp:Hp) (id g off len:Nat):fzR 0 hp (.slO id g off len)=[]:=rfl
theorem fz0_ptO (hp:Hp) (id g n i off:Nat):fz 0 hp (.ptO id g n i off)= .ptO id g n i off:=rfl
theorem fzP0_ptO (hp:Hp) (id g n i off:Nat):fzP 0 hp (.ptO id g n i off)=False:=rfl
theorem fzR0_ptO (hp:Hp) (id g n i off:Nat):fzR 0 hp (.ptO id g n i off)=[]:=rfl
theorem fz0_fn (hp:Hp) (f:FuncId) (cs:List AV):fz 0 hp (.fn f cs)= .fn f cs:=rfl
theorem fzP0_fn (hp:Hp) (f:FuncId) (cs:List AV):fzP 0 hp (.fn f cs)=False:=rfl
theorem fzR0_fn (hp:Hp) (f:FuncId) (cs:List AV):fzR 0 hp (.fn f cs)=[]:=rfl
theorem fz0_agg (hp:Hp) (cs:List AV):fz 0 hp (.agg cs)= .agg cs:=rfl
theorem fzP0_agg (hp:Hp) (cs:List AV):fzP 0 hp (.agg cs)=False:=rfl
theorem fzR0_agg (hp:Hp) (cs:List AV):fzR 0 hp (.agg cs)=[]:=rfl
theorem fz0_tup (hp:Hp) (vs:List AV):fz 0 hp (.tup vs)= .tup vs:=rfl
theorem fzP0_tup (hp:Hp) (vs:List AV):fzP 0 hp (.tup vs)=False:=rfl
theorem fzR0_tup (hp:Hp) (vs:List AV):fzR 0 hp (.tup vs)=[]:=rfl
theorem fz0_mpO (hp:Hp) (id g:Nat):fz 0 hp (.mpO id g)= .mpO id g:=rfl
theorem fzP0_mpO (hp:Hp) (id g:Nat):fzP 0 hp (.mpO id g)=False:=rfl
theorem fzR0_mpO (hp:Hp) (id g:Nat):fzR 0 hp (.mpO id g)=[]:=rfl
theorem fz1_lit (hp:Hp) (v:Value):fz 1 hp (.lit v)= .lit v:=rfl
theorem fzP1_lit (hp:Hp) (v:Value):fzP 1 hp (.lit v)=True:=rfl
theorem fzR1_lit (hp:Hp) (v:Value):fzR 1 hp (.lit v)=[]:=rfl
theorem fz1_sl (hp:Hp) (es:List AV) (b:Bool):fz 1 hp (.sl es b)= .sl es false:=rfl
theorem fzP1_sl (hp:Hp) (es:List AV) (b:Bool):fzP 1 hp (.sl es b)=True:=rfl
theorem fzR1_sl (hp:Hp) (es:List AV) (b:Bool):fzR 1 hp (.sl es b)=[]:=rfl
theorem fz1_kid (hp:Hp) (t k:Nat) (es:List AV):fz 1 hp (.kid t k es)= .sl es false:=rfl
theorem fzP1_kid (hp:Hp) (t k:Nat) (es:List AV):fzP 1 hp (.kid t k es)=True:=rfl
theorem fzR1_kid (hp:Hp) (t k:Nat) (es:List AV):fzR 1 hp (.kid t k es)=[]:=rfl
theorem fz1_ptI (hp:Hp) (cs:List AV):fz 1 hp (.ptI cs)= .ptI cs:=rfl
theorem fzP1_ptI (hp:Hp) (cs:List AV):fzP 1 hp (.ptI cs)=True:=rfl
theorem fzR1_ptI (hp:Hp) (cs:List AV):fzR 1 hp (.ptI cs)=[]:=rfl
theorem fz1_gl (hp:Hp) (n:Nat):fz 1 hp (.gl n)= .gl n:=rfl
theorem fzP1_gl (hp:Hp) (n:Nat):fzP 1 hp (.gl n)=True:=rfl
theorem fzR1_gl (hp:Hp) (n:Nat):fzR 1 hp (.gl n)=[]:=rfl
theorem fz1_bad (hp:Hp):fz 1 hp (.bad)= .bad:=rfl
theorem fzP1_bad (hp:Hp):fzP 1 hp (.bad)=False:=rfl
theorem fzR1_bad (hp:Hp):fzR 1 hp (.bad)=[]:=rfl
theorem fz1_slO (hp:Hp) (id g off len:Nat):fz 1 hp (.slO id g off len)=(match hp.get id with|some (_, .own _ _ es)=> .sl ((es.drop off).map (mapc (fz 0 hp))) false|_=> .bad):=rfl
theorem fzP1_slO (hp:Hp) (id g off len:Nat):fzP 1 hp (.slO id g off len)=(match hp.get id with|some (g', .own _ _ es)=>g'=g/\es.length=off+len/\∀e∈es,∀c∈e.cells,fzP 0 hp c|_=>False):=rfl
theorem fzR1_slO (hp:Hp) (id g off len:Nat):fzR 1 hp (.slO id g off len)=(id::match hp.get id with|some (_, .own _ _ es)=>es.flatMap fun e=>e.cells.flatMap (fzR 0 hp)|_=>[]):=rfl
theorem fz1_ptO (hp:Hp) (id g n i off:Nat):fz 1 hp (.ptO id g n i off)=(match hp.get id with|some (_, .box cs)=> .ptI ((cs.drop off).map (fz 0 hp))|some (_, .own _ _ es)=> .ptI (((es.getD i .bad).cells.drop off).map (fz 0 hp))|_=> .bad):=rfl
theorem fzP1_ptO (hp:Hp) (id g n i off:Nat):fzP 1 hp (.ptO id g n i off)=(match hp.get id with|some (g', .box cs)=>g'=g/\n=0/\i=0/\∀c∈cs,fzP 0 hp c|some (g', .own _ _ es)=>g'=g/\n=es.length/\i<es.length/\∀c∈(es.getD i .bad).cells,fzP 0 hp c|_=>False):=rfl
theorem fzR1_ptO (hp:Hp) (id g n i off:Nat):fzR 1 hp (.ptO id g n i off)=(id::match hp.get id with|some (_, .box cs)=>cs.flatMap (fzR 0 hp)|some (_, .own _ _ es)=>(es.getD i .bad).cells.flatMap (fzR 0 hp)|_=>[]):=rfl
theorem fz1_fn (hp:Hp) (f:FuncId) (cs:List AV):fz 1 hp (.fn f cs)= .fn f (cs.map (fz 0 hp)):=rfl
theorem fzP1_fn (hp:Hp) (f:FuncId) (cs:List AV):fzP 1 hp (.fn f cs)=(∀c∈cs,fzP 0 hp c):=rfl
theorem fzR1_fn (hp:Hp) (f:FuncId) (cs:List AV):fzR 1 hp (.fn f cs)=cs.flatMap (fzR 0 hp):=rfl
theorem fz1_agg (hp:Hp) (cs:List AV):fz 1 hp (.agg cs)= .agg cs:=rfl
theorem fzP1_agg (hp:Hp) (cs:List AV):fzP 1 hp (.agg cs)=False:=rfl
theorem fzR1_agg (hp:Hp) (cs:List AV):fzR 1 hp (.agg cs)=[]:=rfl
theorem fz1_tup (hp:Hp) (vs:List AV):fz 1 hp (.tup vs)= .tup vs:=rfl
theorem fzP1_tup (hp:Hp) (vs:List AV):fzP 1 hp (.tup vs)=False:=rfl
theorem fzR1_tup (hp:Hp) (vs:List AV):fzR 1 hp (.tup vs)=[]:=rfl
theorem fz1_mpO (hp:Hp) (id g:Nat):fz 1 hp (.mpO id g)= .mpO id g:=rfl
theorem fzP1_mpO (hp:Hp) (id g:Nat):fzP 1 hp (.mpO id g)=False:=rfl
theorem fzR1_mpO (hp:Hp) (id g:Nat):fzR 1 hp (.mpO id g)=[]:=rfl
theorem fz2_lit (hp:Hp) (v:Value):fz 2 hp (.lit v)= .lit v:=rfl
theorem fzP2_lit (hp:Hp) (v:Value):fzP 2 hp (.lit v)=True:=rfl
theorem fzR2_lit (hp:Hp) (v:Value):fzR 2 hp (.lit v)=[]:=rfl
theorem fz2_sl (hp:Hp) (es:List AV) (b:Bool):fz 2 hp (.sl es b)= .sl es false:=rfl
theorem fzP2_sl (hp:Hp) (es:List AV) (b:Bool):fzP 2 hp (.sl es b)=True:=rfl
theorem fzR2_sl (hp:Hp) (es:List AV) (b:Bool):fzR 2 hp (.sl es b)=[]:=rfl
theorem fz2_kid (hp:Hp) (t k:Nat) (es:List AV):fz 2 hp (.kid t k es)= .sl es false:=rfl
theorem fzP2_kid (hp:Hp) (t k:Nat) (es:List AV):fzP 2 hp (.kid t k es)=True:=rfl
theorem fzR2_kid (hp:Hp) (t k:Nat) (es:List AV):fzR 2 hp (.kid t k es)=[]:=rfl
theorem fz2_ptI (hp:Hp) (cs:List AV):fz 2 hp (.ptI cs)= .ptI cs:=rfl
theorem fzP2_ptI (hp:Hp) (cs:List AV):fzP 2 hp (.ptI cs)=True:=rfl
theorem fzR2_ptI (hp:Hp) (cs:List AV):fzR 2 hp (.ptI cs)=[]:=rfl
theorem fz2_gl (hp:Hp) (n:Nat):fz 2 hp (.gl n)= .gl n:=rfl
theorem fzP2_gl (hp:Hp) (n:Nat):fzP 2 hp (.gl n)=True:=rfl
theorem fzR2_gl (hp:Hp) (n:Nat):fzR 2 hp (.gl n)=[]:=rfl
theorem fz2_bad (hp:Hp):fz 2 hp (.bad)= .bad:=rfl
theorem fzP2_bad (hp:Hp):fzP 2 hp (.bad)=False:=rfl
theorem fzR2_bad (hp:Hp):fzR 2 hp (.bad)=[]:=rfl
theorem fz2_slO (hp:Hp) (id g off len:Nat):fz 2 hp (.slO id g off len)=(match hp.get id with|some (_, .own _ _ es)=> .sl ((es.drop off).map (mapc (fz 1 hp))) false|_=> .bad):=rfl
theorem fzP2_slO (hp:Hp) (id g off len:Nat):fzP 2 hp (.slO id g off len)=(match hp.get id with|some (g', .own _ _ es)=>g'=g/\es.length=off+len/\∀e∈es,∀c∈e.cells,fzP 1 hp c|_=>False):=rfl
theorem fzR2_slO (hp:Hp) (id g off len:Nat):fzR 2 hp (.slO id g off len)=(id::match hp.get id with|some (_, .own _ _ es)=>es.flatMap fun e=>e.cells.flatMap (fzR 1 hp)|_=>[]):=rfl
theorem fz2_ptO (hp:Hp) (id g n i off:Nat):fz 2 hp (.ptO id g n i off)=(match hp.get id with|some (_, .box cs)=> .ptI ((cs.drop off).map (fz 1 hp))|some (_, .own _ _ es)=> .ptI (((es.getD i .bad).cells.drop off).map (fz 1 hp))|_=> .bad):=rfl
theorem fzP2_ptO (hp:Hp) (id g n i off:Nat):fzP 2 hp (.ptO id g n i off)=(match hp.get id with|some (g', .box cs)=>g'=g/\n=0/\i=0/\∀c∈cs,fzP 1 hp c|some (g', .own _ _ es)=>g'=g/\n=es.length/\i<es.length/\∀c∈(es.getD i .bad).cells,fzP 1 hp c|_=>False):=rfl
theorem fzR2_ptO (hp:Hp) (id g n i off:Nat):fzR 2 hp (.ptO id g n i off)=(id::match hp.get id with|some (_, .box cs)=>cs.flatMap (fzR 1 hp)|some (_, .own _ _ es)=>(es.getD i .bad).cells.flatMap (fzR 1 hp)|_=>[]):=rfl
theorem fz2_fn (hp:Hp) (f:FuncId) (cs:List AV):fz 2 hp (.fn f cs)= .fn f (cs.map (fz 1 hp)):=rfl
theorem fzP2_fn (hp:Hp) (f:FuncId) (cs:List AV):fzP 2 hp (.fn f cs)=(∀c∈cs,fzP 1 hp c):=rfl
theorem fzR2_fn (hp:Hp) (f:FuncId) (cs:List AV):fzR 2 hp (.fn f cs)=cs.flatMap (fzR 1 hp):=rfl
theorem fz2_agg (hp:Hp) (cs:List AV):fz 2 hp (.agg cs)= .agg cs:=rfl
theorem fzP2_agg (hp:Hp) (cs:List AV):fzP 2 hp (.agg cs)=False:=rfl
theorem fzR2_agg (hp:Hp) (cs:List AV):fzR 2 hp (.agg cs)=[]:=rfl
theorem fz2_tup (hp:Hp) (vs:List AV):fz 2 hp (.tup vs)= .tup vs:=rfl
theorem fzP2_tup (hp:Hp) (vs:List AV):fzP 2 hp (.tup vs)=False:=rfl
theorem fzR2_tup (hp:Hp) (vs:List AV):fzR 2 hp (.tup vs)=[]:=rfl
theorem fz2_mpO (hp:Hp) (id g:Nat):fz 2 hp (.mpO id g)= .mpO id g:=rfl
theorem fzP2_mpO (hp:Hp) (id g:Nat):fzP 2 hp (.mpO id g)=False:=rfl
theorem fzR2_mpO (hp:Hp) (id g:Nat):fzR 2 hp (.mpO id g)=[]:=rfl
theorem fz3_lit (hp:Hp) (v:Value):fz 3 hp (.lit v)= .lit v:=rfl
theorem fzP3_lit (hp:Hp) (v:Value):fzP 3 hp (.lit v)=True:=rfl
theorem fzR3_lit (hp:Hp) (v:Value):fzR 3 hp (.lit v)=[]:=rfl
theorem fz3_sl (hp:Hp) (es:List AV) (b:Bool):fz 3 hp (.sl es b)= .sl es false:=rfl
theorem fzP3_sl (hp:Hp) (es:List AV) (b:Bool):fzP 3 hp (.sl es b)=True:=rfl
theorem fzR3_sl (hp:Hp) (es:List AV) (b:Bool):fzR 3 hp (.sl es b)=[]:=rfl
theorem fz3_kid (hp:Hp) (t k:Nat) (es:List AV):fz 3 hp (.kid t k es)= .sl es false:=rfl
theorem fzP3_kid (hp:Hp) (t k:Nat) (es:List AV):fzP 3 hp (.kid t k es)=True:=rfl
theorem fzR3_kid (hp:Hp) (t k:Nat) (es:List AV):fzR 3 hp (.kid t k es)=[]:=rfl
theorem fz3_ptI (hp:Hp) (cs:List AV):fz 3 hp (.ptI cs)= .ptI cs:=rfl
theorem fzP3_ptI (hp:Hp) (cs:List AV):fzP 3 hp (.ptI cs)=True:=rfl
theorem fzR3_ptI (hp:Hp) (cs:List AV):fzR 3 hp (.ptI cs)=[]:=rfl
theorem fz3_gl (hp:Hp) (n:Nat):fz 3 hp (.gl n)= .gl n:=rfl
theorem fzP3_gl (hp:Hp) (n:Nat):fzP 3 hp (.gl n)=True:=rfl
theorem fzR3_gl (hp:Hp) (n:Nat):fzR 3 hp (.gl n)=[]:=rfl
theorem fz3_bad (hp:Hp):fz 3 hp (.bad)= .bad:=rfl
theorem fzP3_bad (hp:Hp):fzP 3 hp (.bad)=False:=rfl
theorem fzR3_bad (hp:Hp):fzR 3 hp (.bad)=[]:=rfl
theorem fz3_slO (hp:Hp) (id g off len:Nat):fz 3 hp (.slO id g off len)=(match hp.get id with|some (_, .own _ _ es)=> .sl ((es.drop off).map (mapc (fz 2 hp))) false|_=> .bad):=rfl
theorem fzP3_slO (hp:Hp) (id g off len:Nat):fzP 3 hp (.slO id g off len)=(match hp.get id with|some (g', .own _ _ es)=>g'=g/\es.length=off+len/\∀e∈es,∀c∈e.cells,fzP 2 hp c|_=>False):=rfl
theorem fzR3_slO (hp:Hp) (id g off len:Nat):fzR 3 hp (.slO id g off len)=(id::match hp.get id with|some (_, .own _ _ es)=>es.flatMap fun e=>e.cells.flatMap (fzR 2 hp)|_=>[]):=rfl
theorem fz3_ptO (hp:Hp) (id g n i off:Nat):fz 3 hp (.ptO id g n i off)=(match hp.get id with|some (_, .box cs)=> .ptI ((cs.drop off).map (fz 2 hp))|some (_, .own _ _ es)=> .ptI (((es.getD i .bad).cells.drop off).map (fz 2 hp))|_=> .bad):=rfl
theorem fzP3_ptO (hp:Hp) (id g n i off:Nat):fzP 3 hp (.ptO id g n i off)=(match hp.get id with|some (g', .box cs)=>g'=g/\n=0/\i=0/\∀c∈cs,fzP 2 hp c|some (g', .own _ _ es)=>g'=g/\n=es.length/\i<es.length/\∀c∈(es.getD i .bad).cells,fzP 2 hp c|_=>False):=rfl
theorem fzR3_ptO (hp:Hp) (id g n i off:Nat):fzR 3 hp (.ptO id g n i off)=(id::match hp.get id with|some (_, .box cs)=>cs.flatMap (fzR 2 hp)|some (_, .own _ _ es)=>(es.getD i .bad).cells.flatMap (fzR 2 hp)|_=>[]):=rfl
theorem fz3_fn (hp:Hp) (f:FuncId) (cs:List AV):fz 3 hp (.fn f cs)= .fn f (cs.map (fz 2 hp)):=rfl
theorem fzP3_fn (hp:Hp) (f:FuncId) (cs:List AV):fzP 3 hp (.fn f cs)=(∀c∈cs,fzP 2 hp c):=rfl
theorem fzR3_fn (hp:Hp) (f:FuncId) (cs:List AV):fzR 3 hp (.fn f cs)=cs.flatMap (fzR 2 hp):=rfl
theorem fz3_agg (hp:Hp) (cs:List AV):fz 3 hp (.agg cs)= .agg cs:=rfl
theorem fzP3_agg (hp:Hp) (cs:List AV):fzP 3 hp (.agg cs)=False:=rfl
theorem fzR3_agg (hp:Hp) (cs:List AV):fzR 3 hp (.agg cs)=[]:=rfl
theorem fz3_tup (hp:Hp) (vs:List AV):fz 3 hp (.tup vs)= .tup vs:=rfl
theorem fzP3_tup (hp:Hp) (vs:List AV):fzP 3 hp (.tup vs)=False:=rfl
theorem fzR3_tup (hp:Hp) (vs:List AV):fzR 3 hp (.tup vs)=[]:=rfl
theorem fz3_mpO (hp:Hp) (id g:Nat):fz 3 hp (.mpO id g)= .mpO id g:=rfl
theorem fzP3_mpO (hp:Hp) (id g:Nat):fzP 3 hp (.mpO id g)=False:=rfl
theorem fzR3_mpO (hp:Hp) (id g:Nat):fzR 3 hp (.mpO id g)=[]:=rfl
theorem fz4_lit (hp:Hp) (v:Value):fz 4 hp (.lit v)= .lit v:=rfl
theorem fzP4_lit (hp:Hp) (v:Value):fzP 4 hp (.lit v)=True:=rfl
theorem fzR4_lit (hp:Hp) (v:Value):fzR 4 hp (.lit v)=[]:=rfl
theorem fz4_sl (hp:Hp) (es:List AV) (b:Bool):fz 4 hp (.sl es b)= .sl es false:=rfl
theorem fzP4_sl (hp:Hp) (es:List AV) (b:Bool):fzP 4 hp (.sl es b)=True:=rfl
theorem fzR4_sl (hp:Hp) (es:List AV) (b:Bool):fzR 4 hp (.sl es b)=[]:=rfl
theorem fz4_kid (hp:Hp) (t k:Nat) (es:List AV):fz 4 hp (.kid t k es)= .sl es false:=rfl
theorem fzP4_kid (hp:Hp) (t k:Nat) (es:List AV):fzP 4 hp (.kid t k es)=True:=rfl
theorem fzR4_kid (hp:Hp) (t k:Nat) (es:List AV):fzR 4 hp (.kid t k es)=[]:=rfl
theorem fz4_ptI (hp:Hp) (cs:List AV):fz 4 hp (.ptI cs)= .ptI cs:=rfl
theorem fzP4_ptI (hp:Hp) (cs:List AV):fzP 4 hp (.ptI cs)=True:=rfl
theorem fzR4_ptI (hp:Hp) (cs:List AV):fzR 4 hp (.ptI cs)=[]:=rfl
theorem fz4_gl (hp:Hp) (n:Nat):fz 4 hp (.gl n)= .gl n:=rfl
theorem fzP4_gl (hp:Hp) (n:Nat):fzP 4 hp (.gl n)=True:=rfl
theorem fzR4_gl (hp:Hp) (n:Nat):fzR 4 hp (.gl n)=[]:=rfl
theorem fz4_bad (hp:Hp):fz 4 hp (.bad)= .bad:=rfl
theorem fzP4_bad (hp:Hp):fzP 4 hp (.bad)=False:=rfl
theorem fzR4_bad (hp:Hp):fzR 4 hp (.bad)=[]:=rfl
theorem fz4_slO (hp:Hp) (id g off len:Nat):fz 4 hp (.slO id g off len)=(match hp.get id with|some (_, .own _ _ es)=> .sl ((es.drop off).map (mapc (fz 3 hp))) false|_=> .bad):=rfl
theorem fzP4_slO (hp:Hp) (id g off len:Nat):fzP 4 hp (.slO id g off len)=(match hp.get id with|some (g', .own _ _ es)=>g'=g/\es.length=off+len/\∀e∈es,∀c∈e.cells,fzP 3 hp c|_=>False):=rfl
theorem fzR4_slO (hp:Hp) (id g off len:Nat):fzR 4 hp (.slO id g off len)=(id::match hp.get id with|some (_, .own _ _ es)=>es.flatMap fun e=>e.cells.flatMap (fzR 3 hp)|_=>[]):=rfl
theorem fz4_ptO (hp:Hp) (id g n i off:Nat):fz 4 hp (.ptO id g n i off)=(match hp.get id with|some (_, .box cs)=> .ptI ((cs.drop off).map (fz 3 hp))|some (_, .own _ _ es)=> .ptI (((es.getD i .bad).cells.drop off).map (fz 3 hp))|_=> .bad):=rfl
theorem fzP4_ptO (hp:Hp) (id g n i off:Nat):fzP 4 hp (.ptO id g n i off)=(match hp.get id with|some (g', .box cs)=>g'=g/\n=0/\i=0/\∀c∈cs,fzP 3 hp c|some (g', .own _ _ es)=>g'=g/\n=es.length/\i<es.length/\∀c∈(es.getD i .bad).cells,fzP 3 hp c|_=>False):=rfl
theorem fzR4_ptO (hp:Hp) (id g n i off:Nat):fzR 4 hp (.ptO id g n i off)=(id::match hp.get id with|some (_, .box cs)=>cs.flatMap (fzR 3 hp)|some (_, .own _ _ es)=>(es.getD i .bad).cells.flatMap (fzR 3 hp)|_=>[]):=rfl
theorem fz4_fn (hp:Hp) (f:FuncId) (cs:List AV):fz 4 hp (.fn f cs)= .fn f (cs.map (fz 3 hp)):=rfl
theorem fzP4_fn (hp:Hp) (f:FuncId) (cs:List AV):fzP 4 hp (.fn f cs)=(∀c∈cs,fzP 3 hp c):=rfl
theorem fzR4_fn (hp:Hp) (f:FuncId) (cs:List AV):fzR 4 hp (.fn f cs)=cs.flatMap (fzR 3 hp):=rfl
theorem fz4_agg (hp:Hp) (cs:List AV):fz 4 hp (.agg cs)= .agg cs:=rfl
theorem fzP4_agg (hp:Hp) (cs:List AV):fzP 4 hp (.agg cs)=False:=rfl
theorem fzR4_agg (hp:Hp) (cs:List AV):fzR 4 hp (.agg cs)=[]:=rfl
theorem fz4_tup (hp:Hp) (vs:List AV):fz 4 hp (.tup vs)= .tup vs:=rfl
theorem fzP4_tup (hp:Hp) (vs:List AV):fzP 4 hp (.tup vs)=False:=rfl
theorem fzR4_tup (hp:Hp) (vs:List AV):fzR 4 hp (.tup vs)=[]:=rfl
theorem fz4_mpO (hp:Hp) (id g:Nat):fz 4 hp (.mpO id g)= .mpO id g:=rfl
theorem fzP4_mpO (hp:Hp) (id g:Nat):fzP 4 hp (.mpO id g)=False:=rfl
theorem fzR4_mpO (hp:Hp) (id g:Nat):fzR 4 hp (.mpO id g)=[]:=rfl
theorem fzk_lit (hp:Hp) (v:Value):fzk hp (.lit v)=fz 3 hp (.lit v):=rfl
theorem fzkP_lit (hp:Hp) (v:Value):fzkP hp (.lit v)=fzP 3 hp (.lit v):=rfl
theorem fzkR_lit (hp:Hp) (v:Value):fzkR hp (.lit v)=fzR 3 hp (.lit v):=rfl
theorem fzk_sl (hp:Hp) (es:List AV) (b:Bool):fzk hp (.sl es b)=fz 3 hp (.sl es b):=rfl
theorem fzkP_sl (hp:Hp) (es:List AV) (b:Bool):fzkP hp (.sl es b)=fzP 3 hp (.sl es b):=rfl
theorem fzkR_sl (hp:Hp) (es:List AV) (b:Bool):fzkR hp (.sl es b)=fzR 3 hp (.sl es b):=rfl
theorem fzk_kid (hp:Hp) (t k:Nat) (es:List AV):fzk hp (.kid t k es)= .kid t k es:=rfl
theorem fzkP_kid (hp:Hp) (t k:Nat) (es:List AV):fzkP hp (.kid t k es)=True:=rfl
theorem fzkR_kid (hp:Hp) (t k:Nat) (es:List AV):fzkR hp (.kid t k es)=[]:=rfl
theorem fzk_ptI (hp:Hp) (cs:List AV):fzk hp (.ptI cs)=fz 3 hp (.ptI cs):=rfl
theorem fzkP_ptI (hp:Hp) (cs:List AV):fzkP hp (.ptI cs)=fzP 3 hp (.ptI cs):=rfl
theorem fzkR_ptI (hp:Hp) (cs:List AV):fzkR hp (.ptI cs)=fzR 3 hp (.ptI cs):=rfl
theorem fzk_gl (hp:Hp) (n:Nat):fzk hp (.gl n)=fz 3 hp (.gl n):=rfl
theorem fzkP_gl (hp:Hp) (n:Nat):fzkP hp (.gl n)=fzP 3 hp (.gl n):=rfl
theorem fzkR_gl (hp:Hp) (n:Nat):fzkR hp (.gl n)=fzR 3 hp (.gl n):=rfl
theorem fzk_bad (hp:Hp):fzk hp (.bad)=fz 3 hp (.bad):=rfl
theorem fzkP_bad (hp:Hp):fzkP hp (.bad)=fzP 3 hp (.bad):=rfl
theorem fzkR_bad (hp:Hp):fzkR hp (.bad)=fzR 3 hp (.bad):=rfl
theorem fzk_slO (hp:Hp) (id g off len:Nat):fzk hp (.slO id g off len)=fz 3 hp (.slO id g off len):=rfl
theorem fzkP_slO (hp:Hp) (id g off len:Nat):fzkP hp (.slO id g off len)=fzP 3 hp (.slO id g off len):=rfl
theorem fzkR_slO (hp:Hp) (id g off len:Nat):fzkR hp (.slO id g off len)=fzR 3 hp (.slO id g off len):=rfl
theorem fzk_ptO (hp:Hp) (id g n i off:Nat):fzk hp (.ptO id g n i off)=fz 3 hp (.ptO id g n i off):=rfl
theorem fzkP_ptO (hp:Hp) (id g n i off:Nat):fzkP hp (.ptO id g n i off)=fzP 3 hp (.ptO id g n i off):=rfl
theorem fzkR_ptO (hp:Hp) (id g n i off:Nat):fzkR hp (.ptO id g n i off)=fzR 3 hp (.ptO id g n i off):=rfl
theorem fzk_fn (hp:Hp) (f:FuncId) (cs:List AV):fzk hp (.fn f cs)=fz 3 hp (.fn f cs):=rfl
theorem fzkP_fn (hp:Hp) (f:FuncId) (cs:List AV):fzkP hp (.fn f cs)=fzP 3 hp (.fn f cs):=rfl
theorem fzkR_fn (hp:Hp) (f:FuncId) (cs:List AV):fzkR hp (.fn f cs)=fzR 3 hp (.fn f cs):=rfl
theorem fzk_agg (hp:Hp) (cs:List AV):fzk hp (.agg cs)=fz 3 hp (.agg cs):=rfl
theorem fzkP_agg (hp:Hp) (cs:List AV):fzkP hp (.agg cs)=fzP 3 hp (.agg cs):=rfl
theorem fzkR_agg (hp:Hp) (cs:List AV):fzkR hp (.agg cs)=fzR 3 hp (.agg cs):=rfl
theorem fzk_tup (hp:Hp) (vs:List AV):fzk hp (.tup vs)=fz 3 hp (.tup vs):=rfl
theorem fzkP_tup (hp:Hp) (vs:List AV):fzkP hp (.tup vs)=fzP 3 hp (.tup vs):=rfl
theorem fzkR_tup (hp:Hp) (vs:List AV):fzkR hp (.tup vs)=fzR 3 hp (.tup vs):=rfl
theorem fzk_mpO (hp:Hp) (id g:Nat):fzk hp (.mpO id g)=fz 3 hp (.mpO id g):=rfl
theorem fzkP_mpO (hp:Hp) (id g:Nat):fzkP hp (.mpO id g)=fzP 3 hp (.mpO id g):=rfl
theorem fzkR_mpO (hp:Hp) (id g:Nat):fzkR hp (.mpO id g)=fzR 3 hp (.mpO id g):=rfl
theorem fzt_lit (hp:Hp) (v:Value):fzt hp (.lit v)=mapc (fz 4 hp) (.lit v):=rfl
theorem fztP_lit (hp:Hp) (v:Value):fztP hp (.lit v)=(∀c∈AV.cells (.lit v),fzP 4 hp c):=rfl
theorem fztR_lit (hp:Hp) (v:Value):fztR hp (.lit v)=(AV.cells (.lit v)).flatMap (fzR 4 hp):=rfl
theorem fzt_sl (hp:Hp) (es:List AV) (b:Bool):fzt hp (.sl es b)=mapc (fz 4 hp) (.sl es b):=rfl
theorem fztP_sl (hp:Hp) (es:List AV) (b:Bool):fztP hp (.sl es b)=(∀c∈AV.cells (.sl es b),fzP 4 hp c):=rfl
theorem fztR_sl (hp:Hp) (es:List AV) (b:Bool):fztR hp (.sl es b)=(AV.cells (.sl es b)).flatMap (fzR 4 hp):=rfl
theorem fzt_kid (hp:Hp) (t k:Nat) (es:List AV):fzt hp (.kid t k es)=mapc (fz 4 hp) (.kid t k es):=rfl
theorem fztP_kid (hp:Hp) (t k:Nat) (es:List AV):fztP hp (.kid t k es)=(∀c∈AV.cells (.kid t k es),fzP 4 hp c):=rfl
theorem fztR_kid (hp:Hp) (t k:Nat) (es:List AV):fztR hp (.kid t k es)=(AV.cells (.kid t k es)).flatMap (fzR 4 hp):=rfl
theorem fzt_ptI (hp:Hp) (cs:List AV):fzt hp (.ptI cs)=mapc (fz 4 hp) (.ptI cs):=rfl
theorem fztP_ptI (hp:Hp) (cs:List AV):fztP hp (.ptI cs)=(∀c∈AV.cells (.ptI cs),fzP 4 hp c):=rfl
theorem fztR_ptI (hp:Hp) (cs:List AV):fztR hp (.ptI cs)=(AV.cells (.ptI cs)).flatMap (fzR 4 hp):=rfl
theorem fzt_gl (hp:Hp) (n:Nat):fzt hp (.gl n)=mapc (fz 4 hp) (.gl n):=rfl
theorem fztP_gl (hp:Hp) (n:Nat):fztP hp (.gl n)=(∀c∈AV.cells (.gl n),fzP 4 hp c):=rfl
theorem fztR_gl (hp:Hp) (n:Nat):fztR hp (.gl n)=(AV.cells (.gl n)).flatMap (fzR 4 hp):=rfl
theorem fzt_bad (hp:Hp):fzt hp (.bad)=mapc (fz 4 hp) (.bad):=rfl
theorem fztP_bad (hp:Hp):fztP hp (.bad)=(∀c∈AV.cells (.bad),fzP 4 hp c):=rfl
theorem fztR_bad (hp:Hp):fztR hp (.bad)=(AV.cells (.bad)).flatMap (fzR 4 hp):=rfl
theorem fzt_slO (hp:Hp) (id g off len:Nat):fzt hp (.slO id g off len)=mapc (fz 4 hp) (.slO id g off len):=rfl
theorem fztP_slO (hp:Hp) (id g off len:Nat):fztP hp (.slO id g off len)=(∀c∈AV.cells (.slO id g off len),fzP 4 hp c):=rfl
theorem fztR_slO (hp:Hp) (id g off len:Nat):fztR hp (.slO id g off len)=(AV.cells (.slO id g off len)).flatMap (fzR 4 hp):=rfl
theorem fzt_ptO (hp:Hp) (id g n i off:Nat):fzt hp (.ptO id g n i off)=mapc (fz 4 hp) (.ptO id g n i off):=rfl
theorem fztP_ptO (hp:Hp) (id g n i off:Nat):fztP hp (.ptO id g n i off)=(∀c∈AV.cells (.ptO id g n i off),fzP 4 hp c):=rfl
theorem fztR_ptO (hp:Hp) (id g n i off:Nat):fztR hp (.ptO id g n i off)=(AV.cells (.ptO id g n i off)).flatMap (fzR 4 hp):=rfl
theorem fzt_fn (hp:Hp) (f:FuncId) (cs:List AV):fzt hp (.fn f cs)=mapc (fz 4 hp) (.fn f cs):=rfl
theorem fztP_fn (hp:Hp) (f:FuncId) (cs:List AV):fztP hp (.fn f cs)=(∀c∈AV.cells (.fn f cs),fzP 4 hp c):=rfl
theorem fztR_fn (hp:Hp) (f:FuncId) (cs:List AV):fztR hp (.fn f cs)=(AV.cells (.fn f cs)).flatMap (fzR 4 hp):=rfl
theorem fzt_agg (hp:Hp) (cs:List AV):fzt hp (.agg cs)=mapc (fz 4 hp) (.agg cs):=rfl
theorem fztP_agg (hp:Hp) (cs:List AV):fztP hp (.agg cs)=(∀c∈AV.cells (.agg cs),fzP 4 hp c):=rfl
theorem fztR_agg (hp:Hp) (cs:List AV):fztR hp (.agg cs)=(AV.cells (.agg cs)).flatMap (fzR 4 hp):=rfl
theorem fzt_tup (hp:Hp) (vs:List AV):fzt hp (.tup vs)= .tup (vs.map (mapc (fz 4 hp))):=rfl
theorem fztP_tup (hp:Hp) (vs:List AV):fztP hp (.tup vs)=(∀v∈vs,∀c∈v.cells,fzP 4 hp c):=rfl
theorem fztR_tup (hp:Hp) (vs:List AV):fztR hp (.tup vs)=(vs.flatMap fun v=>v.cells.flatMap (fzR 4 hp)):=rfl
theorem fzt_mpO (hp:Hp) (id g:Nat):fzt hp (.mpO id g)=mapc (fz 4 hp) (.mpO id g):=rfl
theorem fztP_mpO (hp:Hp) (id g:Nat):fztP hp (.mpO id g)=(∀c∈AV.cells (.mpO id g),fzP 4 hp c):=rfl
theorem fztR_mpO (hp:Hp) (id g:Nat):fztR hp (.mpO id g)=(AV.cells (.mpO id g)).flatMap (fzR 4 hp):=rfl
theorem att_lit (hp:Hp) (v:Value):att hp (.lit v)= .lit v:=rfl
theorem attP_lit (hp:Hp) (v:Value):attP hp (.lit v)=True:=rfl
theorem attR_lit (v:Value):attR (.lit v)=[]:=rfl
theorem att_sl (hp:Hp) (es:List AV) (b:Bool):att hp (.sl es b)= .sl es b:=rfl
theorem attP_sl (hp:Hp) (es:List AV) (b:Bool):attP hp (.sl es b)=True:=rfl
theorem attR_sl (es:List AV) (b:Bool):attR (.sl es b)=[]:=rfl
theorem att_kid (hp:Hp) (t k:Nat) (es:List AV):att hp (.kid t k es)= .kid t k es:=rfl
theorem attP_kid (hp:Hp) (t k:Nat) (es:List AV):attP hp (.kid t k es)=False:=rfl
theorem attR_kid (t k:Nat) (es:List AV):attR (.kid t k es)=[]:=rfl
theorem att_ptI (hp:Hp) (cs:List AV):att hp (.ptI cs)= .ptI cs:=rfl
theorem attP_ptI (hp:Hp) (cs:List AV):attP hp (.ptI cs)=True:=rfl
theorem attR_ptI (cs:List AV):attR (.ptI cs)=[]:=rfl
theorem att_gl (hp:Hp) (n:Nat):att hp (.gl n)= .gl n:=rfl
theorem attP_gl (hp:Hp) (n:Nat):attP hp (.gl n)=True:=rfl
theorem attR_gl (n:Nat):attR (.gl n)=[]:=rfl
theorem att_bad (hp:Hp):att hp (.bad)= .bad:=rfl
theorem attP_bad (hp:Hp):attP hp (.bad)=False:=rfl
theorem attR_bad:attR (.bad)=[]:=rfl
theorem att_slO (hp:Hp) (id g off len:Nat):att hp (.slO id g off len)=(match hp.get id with|some (_, .own t k es)=>if off=0 then .kid t k (es.map (mapc (fz 0 hp))) else fz 1 hp (.slO id g off len)|_=> .bad):=rfl
theorem attP_slO (hp:Hp) (id g off len:Nat):attP hp (.slO id g off len)=fzP 1 hp (.slO id g off len):=rfl
theorem attR_slO (id g off len:Nat):attR (.slO id g off len)=[id]:=rfl
theorem att_ptO (hp:Hp) (id g n i off:Nat):att hp (.ptO id g n i off)= .ptO id g n i off:=rfl
theorem attP_ptO (hp:Hp) (id g n i off:Nat):attP hp (.ptO id g n i off)=True:=rfl
theorem attR_ptO (id g n i off:Nat):attR (.ptO id g n i off)=[]:=rfl
theorem att_fn (hp:Hp) (f:FuncId) (cs:List AV):att hp (.fn f cs)= .fn f cs:=rfl
theorem attP_fn (hp:Hp) (f:FuncId) (cs:List AV):attP hp (.fn f cs)=True:=rfl
theorem attR_fn (f:FuncId) (cs:List AV):attR (.fn f cs)=[]:=rfl
theorem att_agg (hp:Hp) (cs:List AV):att hp (.agg cs)= .agg cs:=rfl
theorem attP_agg (hp:Hp) (cs:List AV):attP hp (.agg cs)=False:=rfl
theorem attR_agg (cs:List AV):attR (.agg cs)=[]:=rfl
theorem att_tup (hp:Hp) (vs:List AV):att hp (.tup vs)= .tup vs:=rfl
theorem attP_tup (hp:Hp) (vs:List AV):attP hp (.tup vs)=False:=rfl
theorem attR_tup (vs:List AV):attR (.tup vs)=[]:=rfl
theorem att_mpO (hp:Hp) (id g:Nat):att hp (.mpO id g)= .mpO id g:=rfl
theorem attP_mpO (hp:Hp) (id g:Nat):attP hp (.mpO id g)=True:=rfl
theorem attR_mpO (id g:Nat):attR (.mpO id g)=[]:=rfl
theorem srcE_lit (hp:Hp) (v:Value):srcE hp (.lit v)=none:=rfl
theorem srcP_lit (hp:Hp) (v:Value):srcP hp (.lit v)=False:=rfl
theorem srcR_lit (hp:Hp) (v:Value):srcR hp (.lit v)=[]:=rfl
theorem srcE_sl (hp:Hp) (es:List AV) (b:Bool):srcE hp (.sl es b)=some es:=rfl
theorem srcP_sl (hp:Hp) (es:List AV) (b:Bool):srcP hp (.sl es b)=True:=rfl
theorem srcR_sl (hp:Hp) (es:List AV) (b:Bool):srcR hp (.sl es b)=esR es:=rfl
theorem srcE_kid (hp:Hp) (t k:Nat) (es:List AV):srcE hp (.kid t k es)=none:=rfl
theorem srcP_kid (hp:Hp) (t k:Nat) (es:List AV):srcP hp (.kid t k es)=False:=rfl
theorem srcR_kid (hp:Hp) (t k:Nat) (es:List AV):srcR hp (.kid t k es)=[]:=rfl
theorem srcE_ptI (hp:Hp) (cs:List AV):srcE hp (.ptI cs)=none:=rfl
theorem srcP_ptI (hp:Hp) (cs:List AV):srcP hp (.ptI cs)=False:=rfl
theorem srcR_ptI (hp:Hp) (cs:List AV):srcR hp (.ptI cs)=[]:=rfl
theorem srcE_gl (hp:Hp) (n:Nat):srcE hp (.gl n)=none:=rfl
theorem srcP_gl (hp:Hp) (n:Nat):srcP hp (.gl n)=False:=rfl
theorem srcR_gl (hp:Hp) (n:Nat):srcR hp (.gl n)=[]:=rfl
theorem srcE_bad (hp:Hp):srcE hp (.bad)=none:=rfl
theorem srcP_bad (hp:Hp):srcP hp (.bad)=False:=rfl
theorem srcR_bad (hp:Hp):srcR hp (.bad)=[]:=rfl
theorem srcE_slO (hp:Hp) (id g off len:Nat):srcE hp (.slO id g off len)=(match hp.get id with|some (_, .own _ _ es)=>some (es.drop off)|_=>none):=rfl
theorem srcP_slO (hp:Hp) (id g off len:Nat):srcP hp (.slO id g off len)=(match hp.get id with|some (g', .own _ _ es)=>g'=g/\es.length=off+len|_=>False):=rfl
theorem srcR_slO (hp:Hp) (id g off len:Nat):srcR hp (.slO id g off len)=(match (match hp.get id with|some (_, .own _ _ es)=>some (es.drop off)|_=>none) with|some ys=>esR ys|none=>[]):=rfl
theorem srcE_ptO (hp:Hp) (id g n i off:Nat):srcE hp (.ptO id g n i off)=none:=rfl
theorem srcP_ptO (hp:Hp) (id g n i off:Nat):srcP hp (.ptO id g n i off)=False:=rfl
theorem srcR_ptO (hp:Hp) (id g n i off:Nat):srcR hp (.ptO id g n i off)=[]:=rfl
theorem srcE_fn (hp:Hp) (f:FuncId) (cs:List AV):srcE hp (.fn f cs)=none:=rfl
theorem srcP_fn (hp:Hp) (f:FuncId) (cs:List AV):srcP hp (.fn f cs)=False:=rfl
theorem srcR_fn (hp:Hp) (f:FuncId) (cs:List AV):srcR hp (.fn f cs)=[]:=rfl
theorem srcE_agg (hp:Hp) (cs:List AV):srcE hp (.agg cs)=none:=rfl
theorem srcP_agg (hp:Hp) (cs:List AV):srcP hp (.agg cs)=False:=rfl
theorem srcR_agg (hp:Hp) (cs:List AV):srcR hp (.agg cs)=[]:=rfl
theorem srcE_tup (hp:Hp) (vs:List AV):srcE hp (.tup vs)=none:=rfl
theorem srcP_tup (hp:Hp) (vs:List AV):srcP hp (.tup vs)=False:=rfl
theorem srcR_tup (hp:Hp) (vs:List AV):srcR hp (.tup vs)=[]:=rfl
theorem srcE_mpO (hp:Hp) (id g:Nat):srcE hp (.mpO id g)=none:=rfl
theorem srcP_mpO (hp:Hp) (id g:Nat):srcP hp (.mpO id g)=False:=rfl
theorem srcR_mpO (hp:Hp) (id g:Nat):srcR hp (.mpO id g)=[]:=rfl
theorem ids3_lit (v:Value):ids3 (.lit v)=[]:=rfl
theorem ids2_lit (v:Value):ids2 (.lit v)=[]:=rfl
theorem ids1_lit (v:Value):ids1 (.lit v)=[]:=rfl
theorem ids0_lit (v:Value):ids0 (.lit v)=[]:=rfl
theorem ids3_sl (es:List AV) (b:Bool):ids3 (.sl es b)=[]:=rfl
theorem ids2_sl (es:List AV) (b:Bool):ids2 (.sl es b)=[]:=rfl
theorem ids1_sl (es:List AV) (b:Bool):ids1 (.sl es b)=[]:=rfl
theorem ids0_sl (es:List AV) (b:Bool):ids0 (.sl es b)=[]:=rfl
theorem ids3_kid (t k:Nat) (es:List AV):ids3 (.kid t k es)=[]:=rfl
theorem ids2_kid (t k:Nat) (es:List AV):ids2 (.kid t k es)=[]:=rfl
theorem ids1_kid (t k:Nat) (es:List AV):ids1 (.kid t k es)=[]:=rfl
theorem ids0_kid (t k:Nat) (es:List AV):ids0 (.kid t k es)=[]:=rfl
theorem ids3_ptI (cs:List AV):ids3 (.ptI cs)=[]:=rfl
theorem ids2_ptI (cs:List AV):ids2 (.ptI cs)=[]:=rfl
theorem ids1_ptI (cs:List AV):ids1 (.ptI cs)=[]:=rfl
theorem ids0_ptI (cs:List AV):ids0 (.ptI cs)=[]:=rfl
theorem ids3_gl (n:Nat):ids3 (.gl n)=[]:=rfl
theorem ids2_gl (n:Nat):ids2 (.gl n)=[]:=rfl
theorem ids1_gl (n:Nat):ids1 (.gl n)=[]:=rfl
theorem ids0_gl (n:Nat):ids0 (.gl n)=[]:=rfl
theorem ids3_bad:ids3 (.bad)=[]:=rfl
theorem ids2_bad:ids2 (.bad)=[]:=rfl
theorem ids1_bad:ids1 (.bad)=[]:=rfl
theorem ids0_bad:ids0 (.bad)=[]:=rfl
theorem ids3_slO (id g off len:Nat):ids3 (.slO id g off len)=[id]:=rfl
theorem ids2_slO (id g off len:Nat):ids2 (.slO id g off len)=[id]:=rfl
theorem ids1_slO (id g off len:Nat):ids1 (.slO id g off len)=[id]:=rfl
theorem ids0_slO (id g off len:Nat):ids0 (.slO id g off len)=[id]:=rfl
theorem ids3_ptO (id g n i off:Nat):ids3 (.ptO id g n i off)=[id]:=rfl
theorem ids2_ptO (id g n i off:Nat):ids2 (.ptO id g n i off)=[id]:=rfl
theorem ids1_ptO (id g n i off:Nat):ids1 (.ptO id g n i off)=[id]:=rfl
theorem ids0_ptO (id g n i off:Nat):ids0 (.ptO id g n i off)=[id]:=rfl
theorem ids3_fn (f:FuncId) (cs:List AV):ids3 (.fn f cs)=cs.flatMap ids0:=rfl
theorem ids2_fn (f:FuncId) (cs:List AV):ids2 (.fn f cs)=cs.flatMap ids0:=rfl
theorem ids1_fn (f:FuncId) (cs:List AV):ids1 (.fn f cs)=cs.flatMap ids0:=rfl
theorem ids3_agg (cs:List AV):ids3 (.agg cs)=cs.flatMap ids1:=rfl
theorem ids2_agg (cs:List AV):ids2 (.agg cs)=cs.flatMap ids1:=rfl
theorem ids3_tup (vs:List AV):ids3 (.tup vs)=vs.flatMap ids2:=rfl
theorem ids3_mpO (id g:Nat):ids3 (.mpO id g)=[id]:=rfl
theorem ids2_mpO (id g:Nat):ids2 (.mpO id g)=[id]:=rfl
theorem ids1_mpO (id g:Nat):ids1 (.mpO id g)=[id]:=rfl
theorem ids0_mpO (id g:Nat):ids0 (.mpO id g)=[id]:=rfl
theorem rnAT_lit (τ:Nm) (hp:Hp) (v:Value):rnA true τ hp (.lit v)=fz 4 hp (.lit v):=rfl
theorem rnAPT_lit (τ:Nm) (hp:Hp) (v:Value):rnAP true τ hp (.lit v)=fzP 4 hp (.lit v):=rfl
theorem rnART_lit (τ:Nm) (hp:Hp) (v:Value):rnAR true τ hp (.lit v)=fzR 4 hp (.lit v):=rfl
theorem rnBT_lit (τ:Nm) (hp:Hp) (v:Value):rnB true τ hp (.lit v)=rnA true τ hp (.lit v):=rfl
theorem rnBPT_lit (τ:Nm) (hp:Hp) (v:Value):rnBP true τ hp (.lit v)=rnAP true τ hp (.lit v):=rfl
theorem rnBRT_lit (τ:Nm) (hp:Hp) (v:Value):rnBR true τ hp (.lit v)=rnAR true τ hp (.lit v):=rfl
theorem rnKT_lit (τ:Nm) (hp:Hp) (v:Value):rnK true τ hp (.lit v)=rnB true τ hp (.lit v):=rfl
theorem rnKPT_lit (τ:Nm) (hp:Hp) (v:Value):rnKP true τ hp (.lit v)=rnBP true τ hp (.lit v):=rfl
theorem rnKRT_lit (τ:Nm) (hp:Hp) (v:Value):rnKR true τ hp (.lit v)=rnBR true τ hp (.lit v):=rfl
theorem rntT_lit (τ:Nm) (hp:Hp) (v:Value):rnt true τ hp (.lit v)=mapc (rnB true τ hp) (.lit v):=rfl
theorem rntPT_lit (τ:Nm) (hp:Hp) (v:Value):rntP true τ hp (.lit v)=(∀c∈AV.cells (.lit v),rnBP true τ hp c):=rfl
theorem rntRT_lit (τ:Nm) (hp:Hp) (v:Value):rntR true τ hp (.lit v)=(AV.cells (.lit v)).flatMap (rnBR true τ hp):=rfl
theorem rnAT_sl (τ:Nm) (hp:Hp) (es:List AV) (b:Bool):rnA true τ hp (.sl es b)=fz 4 hp (.sl es b):=rfl
theorem rnAPT_sl (τ:Nm) (hp:Hp) (es:List AV) (b:Bool):rnAP true τ hp (.sl es b)=fzP 4 hp (.sl es b):=rfl
theorem rnART_sl (τ:Nm) (hp:Hp) (es:List AV) (b:Bool):rnAR true τ hp (.sl es b)=fzR 4 hp (.sl es b):=rfl
theorem rnBT_sl (τ:Nm) (hp:Hp) (es:List AV) (b:Bool):rnB true τ hp (.sl es b)=rnA true τ hp (.sl es b):=rfl
theorem rnBPT_sl (τ:Nm) (hp:Hp) (es:List AV) (b:Bool):rnBP true τ hp (.sl es b)=rnAP true τ hp (.sl es b):=rfl
theorem rnBRT_sl (τ:Nm) (hp:Hp) (es:List AV) (b:Bool):rnBR true τ hp (.sl es b)=rnAR true τ hp (.sl es b):=rfl
theorem rnKT_sl (τ:Nm) (hp:Hp) (es:List AV) (b:Bool):rnK true τ hp (.sl es b)=rnB true τ hp (.sl es b):=rfl
theorem rnKPT_sl (τ:Nm) (hp:Hp) (es:List AV) (b:Bool):rnKP true τ hp (.sl es b)=rnBP true τ hp (.sl es b):=rfl
theorem rnKRT_sl (τ:Nm) (hp:Hp) (es:List AV) (b:Bool):rnKR true τ hp (.sl es b)=rnBR true τ hp (.sl es b):=rfl
theorem rntT_sl (τ:Nm) (hp:Hp) (es:List AV) (b:Bool):rnt true τ hp (.sl es b)=mapc (rnB true τ hp) (.sl es b):=rfl
theorem rntPT_sl (τ:Nm) (hp:Hp) (es:List AV) (b:Bool):rntP true τ hp (.sl es b)=(∀c∈AV.cells (.sl es b),rnBP true τ hp c):=rfl
theorem rntRT_sl (τ:Nm) (hp:Hp) (es:List AV) (b:Bool):rntR true τ hp (.sl es b)=(AV.cells (.sl es b)).flatMap (rnBR true τ hp):=rfl
theorem rnAT_kid (τ:Nm) (hp:Hp) (t k:Nat) (es:List AV):rnA true τ hp (.kid t k es)=fz 4 hp (.kid t k es):=rfl
theorem rnAPT_kid (τ:Nm) (hp:Hp) (t k:Nat) (es:List AV):rnAP true τ hp (.kid t k es)=fzP 4 hp (.kid t k es):=rfl
theorem rnART_kid (τ:Nm) (hp:Hp) (t k:Nat) (es:List AV):rnAR true τ hp (.kid t k es)=fzR 4 hp (.kid t k es):=rfl
theorem rnBT_kid (τ:Nm) (hp:Hp) (t k:Nat) (es:List AV):rnB true τ hp (.kid t k es)=rnA true τ hp (.kid t k es):=rfl
theorem rnBPT_kid (τ:Nm) (hp:Hp) (t k:Nat) (es:List AV):rnBP true τ hp (.kid t k es)=rnAP true τ hp (.kid t k es):=rfl
theorem rnBRT_kid (τ:Nm) (hp:Hp) (t k:Nat) (es:List AV):rnBR true τ hp (.kid t k es)=rnAR true τ hp (.kid t k es):=rfl
theorem rnKT_kid (τ:Nm) (hp:Hp) (t k:Nat) (es:List AV):rnK true τ hp (.kid t k es)= .kid t k es:=rfl
theorem rnKPT_kid (τ:Nm) (hp:Hp) (t k:Nat) (es:List AV):rnKP true τ hp (.kid t k es)=True:=rfl
theorem rnKRT_kid (τ:Nm) (hp:Hp) (t k:Nat) (es:List AV):rnKR true τ hp (.kid t k es)=[]:=rfl
theorem rntT_kid (τ:Nm) (hp:Hp) (t k:Nat) (es:List AV):rnt true τ hp (.kid t k es)=mapc (rnB true τ hp) (.kid t k es):=rfl
theorem rntPT_kid (τ:Nm) (hp:Hp) (t k:Nat) (es:List AV):rntP true τ hp (.kid t k es)=(∀c∈AV.cells (.kid t k es),rnBP true τ hp c):=rfl
theorem rntRT_kid (τ:Nm) (hp:Hp) (t k:Nat) (es:List AV):rntR true τ hp (.kid t k es)=(AV.cells (.kid t k es)).flatMap (rnBR true τ hp):=rfl
theorem rnAT_ptI (τ:Nm) (hp:Hp) (cs:List AV):rnA true τ hp (.ptI cs)=fz 4 hp (.ptI cs):=rfl
theorem rnAPT_ptI (τ:Nm) (hp:Hp) (cs:List AV):rnAP true τ hp (.ptI cs)=fzP 4 hp (.ptI cs):=rfl
theorem rnART_ptI (τ:Nm) (hp:Hp) (cs:List AV):rnAR true τ hp (.ptI cs)=fzR 4 hp (.ptI cs):=rfl
theorem rnBT_ptI (τ:Nm) (hp:Hp) (cs:List AV):rnB true τ hp (.ptI cs)=rnA true τ hp (.ptI cs):=rfl
theorem rnBPT_ptI (τ:Nm) (hp:Hp) (cs:List AV):rnBP true τ hp (.ptI cs)=rnAP true τ hp (.ptI cs):=rfl
theorem rnBRT_ptI (τ:Nm) (hp:Hp) (cs:List AV):rnBR true τ hp (.ptI cs)=rnAR true τ hp (.ptI cs):=rfl
theorem rnKT_ptI (τ:Nm) (hp:Hp) (cs:List AV):rnK true τ hp (.ptI cs)=rnB true τ hp (.ptI cs):=rfl
theorem rnKPT_ptI (τ:Nm) (hp:Hp) (cs:List AV):rnKP true τ hp (.ptI cs)=rnBP true τ hp (.ptI cs):=rfl
theorem rnKRT_ptI (τ:Nm) (hp:Hp) (cs:List AV):rnKR true τ hp (.ptI cs)=rnBR true τ hp (.ptI cs):=rfl
theorem rntT_ptI (τ:Nm) (hp:Hp) (cs:List AV):rnt true τ hp (.ptI cs)=mapc (rnB true τ hp) (.ptI cs):=rfl
theorem rntPT_ptI (τ:Nm) (hp:Hp) (cs:List AV):rntP true τ hp (.ptI cs)=(∀c∈AV.cells (.ptI cs),rnBP true τ hp c):=rfl
theorem rntRT_ptI (τ:Nm) (hp:Hp) (cs:List AV):rntR true τ hp (.ptI cs)=(AV.cells (.ptI cs)).flatMap (rnBR true τ hp):=rfl
theorem rnAT_gl (τ:Nm) (hp:Hp) (n:Nat):rnA true τ hp (.gl n)=fz 4 hp (.gl n):=rfl
theorem rnAPT_gl (τ:Nm) (hp:Hp) (n:Nat):rnAP true τ hp (.gl n)=fzP 4 hp (.gl n):=rfl
theorem rnART_gl (τ:Nm) (hp:Hp) (n:Nat):rnAR true τ hp (.gl n)=fzR 4 hp (.gl n):=rfl
theorem rnBT_gl (τ:Nm) (hp:Hp) (n:Nat):rnB true τ hp (.gl n)=rnA true τ hp (.gl n):=rfl
theorem rnBPT_gl (τ:Nm) (hp:Hp) (n:Nat):rnBP true τ hp (.gl n)=rnAP true τ hp (.gl n):=rfl
theorem rnBRT_gl (τ:Nm) (hp:Hp) (n:Nat):rnBR true τ hp (.gl n)=rnAR true τ hp (.gl n):=rfl
theorem rnKT_gl (τ:Nm) (hp:Hp) (n:Nat):rnK true τ hp (.gl n)=rnB true τ hp (.gl n):=rfl
theorem rnKPT_gl (τ:Nm) (hp:Hp) (n:Nat):rnKP true τ hp (.gl n)=rnBP true τ hp (.gl n):=rfl
theorem rnKRT_gl (τ:Nm) (hp:Hp) (n:Nat):rnKR true τ hp (.gl n)=rnBR true τ hp (.gl n):=rfl
theorem rntT_gl (τ:Nm) (hp:Hp) (n:Nat):rnt true τ hp (.gl n)=mapc (rnB true τ hp) (.gl n):=rfl
theorem rntPT_gl (τ:Nm) (hp:Hp) (n:Nat):rntP true τ hp (.gl n)=(∀c∈AV.cells (.gl n),rnBP true τ hp c):=rfl
theorem rntRT_gl (τ:Nm) (hp:Hp) (n:Nat):rntR true τ hp (.gl n)=(AV.cells (.gl n)).flatMap (rnBR true τ hp):=rfl
theorem rnAT_bad (τ:Nm) (hp:Hp):rnA true τ hp (.bad)=fz 4 hp (.bad):=rfl
theorem rnAPT_bad (τ:Nm) (hp:Hp):rnAP true τ hp (.bad)=fzP 4 hp (.bad):=rfl
theorem rnART_bad (τ:Nm) (hp:Hp):rnAR true τ hp (.bad)=fzR 4 hp (.bad):=rfl
theorem rnBT_bad (τ:Nm) (hp:Hp):rnB true τ hp (.bad)=rnA true τ hp (.bad):=rfl
theorem rnBPT_bad (τ:Nm) (hp:Hp):rnBP true τ hp (.bad)=rnAP true τ hp (.bad):=rfl
theorem rnBRT_bad (τ:Nm) (hp:Hp):rnBR true τ hp (.bad)=rnAR true τ hp (.bad):=rfl
theorem rnKT_bad (τ:Nm) (hp:Hp):rnK true τ hp (.bad)=rnB true τ hp (.bad):=rfl
theorem rnKPT_bad (τ:Nm) (hp:Hp):rnKP true τ hp (.bad)=rnBP true τ hp (.bad):=rfl
theorem rnKRT_bad (τ:Nm) (hp:Hp):rnKR true τ hp (.bad)=rnBR true τ hp (.bad):=rfl
theorem rntT_bad (τ:Nm) (hp:Hp):rnt true τ hp (.bad)=mapc (rnB true τ hp) (.bad):=rfl
theorem rntPT_bad (τ:Nm) (hp:Hp):rntP true τ hp (.bad)=(∀c∈AV.cells (.bad),rnBP true τ hp c):=rfl
theorem rntRT_bad (τ:Nm) (hp:Hp):rntR true τ hp (.bad)=(AV.cells (.bad)).flatMap (rnBR true τ hp):=rfl
theorem rnAT_slO (τ:Nm) (hp:Hp) (id g off len:Nat):rnA true τ hp (.slO id g off len)=(match lk τ id with|some (i',gi,ga)=>if g=ga then .slO i' gi off len else .bad|none=>fz 4 hp (.slO id g off len)):=rfl
theorem rnAPT_slO (τ:Nm) (hp:Hp) (id g off len:Nat):rnAP true τ hp (.slO id g off len)=(match lk τ id with|some (_,_,ga)=>g=ga|none=>fzP 4 hp (.slO id g off len)):=rfl
theorem rnART_slO (τ:Nm) (hp:Hp) (id g off len:Nat):rnAR true τ hp (.slO id g off len)=(match lk τ id with|some _=>[]|none=>fzR 4 hp (.slO id g off len)):=rfl
theorem rnBT_slO (τ:Nm) (hp:Hp) (id g off len:Nat):rnB true τ hp (.slO id g off len)=rnA true τ hp (.slO id g off len):=rfl
theorem rnBPT_slO (τ:Nm) (hp:Hp) (id g off len:Nat):rnBP true τ hp (.slO id g off len)=rnAP true τ hp (.slO id g off len):=rfl
theorem rnBRT_slO (τ:Nm) (hp:Hp) (id g off len:Nat):rnBR true τ hp (.slO id g off len)=rnAR true τ hp (.slO id g off len):=rfl
theorem rnKT_slO (τ:Nm) (hp:Hp) (id g off len:Nat):rnK true τ hp (.slO id g off len)=rnB true τ hp (.slO id g off len):=rfl
theorem rnKPT_slO (τ:Nm) (hp:Hp) (id g off len:Nat):rnKP true τ hp (.slO id g off len)=rnBP true τ hp (.slO id g off len):=rfl
theorem rnKRT_slO (τ:Nm) (hp:Hp) (id g off len:Nat):rnKR true τ hp (.slO id g off len)=rnBR true τ hp (.slO id g off len):=rfl
theorem rntT_slO (τ:Nm) (hp:Hp) (id g off len:Nat):rnt true τ hp (.slO id g off len)=mapc (rnB true τ hp) (.slO id g off len):=rfl
theorem rntPT_slO (τ:Nm) (hp:Hp) (id g off len:Nat):rntP true τ hp (.slO id g off len)=(∀c∈AV.cells (.slO id g off len),rnBP true τ hp c):=rfl
theorem rntRT_slO (τ:Nm) (hp:Hp) (id g off len:Nat):rntR true τ hp (.slO id g off len)=(AV.cells (.slO id g off len)).flatMap (rnBR true τ hp):=rfl
theorem rnAT_ptO (τ:Nm) (hp:Hp) (id g n i off:Nat):rnA true τ hp (.ptO id g n i off)=(match lk τ id with|some (i',gi,ga)=>if g=ga then .ptO i' gi n i off else .bad|none=>fz 4 hp (.ptO id g n i off)):=rfl
theorem rnAPT_ptO (τ:Nm) (hp:Hp) (id g n i off:Nat):rnAP true τ hp (.ptO id g n i off)=(match lk τ id with|some (_,_,ga)=>g=ga|none=>fzP 4 hp (.ptO id g n i off)):=rfl
theorem rnART_ptO (τ:Nm) (hp:Hp) (id g n i off:Nat):rnAR true τ hp (.ptO id g n i off)=(match lk τ id with|some _=>[]|none=>fzR 4 hp (.ptO id g n i off)):=rfl
theorem rnBT_ptO (τ:Nm) (hp:Hp) (id g n i off:Nat):rnB true τ hp (.ptO id g n i off)=rnA true τ hp (.ptO id g n i off):=rfl
theorem rnBPT_ptO (τ:Nm) (hp:Hp) (id g n i off:Nat):rnBP true τ hp (.ptO id g n i off)=rnAP true τ hp (.ptO id g n i off):=rfl
theorem rnBRT_ptO (τ:Nm) (hp:Hp) (id g n i off:Nat):rnBR true τ hp (.ptO id g n i off)=rnAR true τ hp (.ptO id g n i off):=rfl
theorem rnKT_ptO (τ:Nm) (hp:Hp) (id g n i off:Nat):rnK true τ hp (.ptO id g n i off)=rnB true τ hp (.ptO id g n i off):=rfl
theorem rnKPT_ptO (τ:Nm) (hp:Hp) (id g n i off:Nat):rnKP true τ hp (.ptO id g n i off)=rnBP true τ hp (.ptO id g n i off):=rfl
theorem rnKRT_ptO (τ:Nm) (hp:Hp) (id g n i off:Nat):rnKR true τ hp (.ptO id g n i off)=rnBR true τ hp (.ptO id g n i off):=rfl
theorem rntT_ptO (τ:Nm) (hp:Hp) (id g n i off:Nat):rnt true τ hp (.ptO id g n i off)=mapc (rnB true τ hp) (.ptO id g n i off):=rfl
theorem rntPT_ptO (τ:Nm) (hp:Hp) (id g n i off:Nat):rntP true τ hp (.ptO id g n i off)=(∀c∈AV.cells (.ptO id g n i off),rnBP true τ hp c):=rfl
theorem rntRT_ptO (τ:Nm) (hp:Hp) (id g n i off:Nat):rntR true τ hp (.ptO id g n i off)=(AV.cells (.ptO id g n i off)).flatMap (rnBR true τ hp):=rfl
theorem rnAT_fn (τ:Nm) (hp:Hp) (f:FuncId) (cs:List AV):rnA true τ hp (.fn f cs)=fz 4 hp (.fn f cs):=rfl
theorem rnAPT_fn (τ:Nm) (hp:Hp) (f:FuncId) (cs:List AV):rnAP true τ hp (.fn f cs)=fzP 4 hp (.fn f cs):=rfl
theorem rnART_fn (τ:Nm) (hp:Hp) (f:FuncId) (cs:List AV):rnAR true τ hp (.fn f cs)=fzR 4 hp (.fn f cs):=rfl
theorem rnBT_fn (τ:Nm) (hp:Hp) (f:FuncId) (cs:List AV):rnB true τ hp (.fn f cs)= .fn f (cs.map (rnA true τ hp)):=rfl
theorem rnBPT_fn (τ:Nm) (hp:Hp) (f:FuncId) (cs:List AV):rnBP true τ hp (.fn f cs)=(∀c∈cs,rnAP true τ hp c):=rfl
theorem rnBRT_fn (τ:Nm) (hp:Hp) (f:FuncId) (cs:List AV):rnBR true τ hp (.fn f cs)=cs.flatMap (rnAR true τ hp):=rfl
theorem rnKT_fn (τ:Nm) (hp:Hp) (f:FuncId) (cs:List AV):rnK true τ hp (.fn f cs)=rnB true τ hp (.fn f cs):=rfl
theorem rnKPT_fn (τ:Nm) (hp:Hp) (f:FuncId) (cs:List AV):rnKP true τ hp (.fn f cs)=rnBP true τ hp (.fn f cs):=rfl
theorem rnKRT_fn (τ:Nm) (hp:Hp) (f:FuncId) (cs:List AV):rnKR true τ hp (.fn f cs)=rnBR true τ hp (.fn f cs):=rfl
theorem rntT_fn (τ:Nm) (hp:Hp) (f:FuncId) (cs:List AV):rnt true τ hp (.fn f cs)=mapc (rnB true τ hp) (.fn f cs):=rfl
theorem rntPT_fn (τ:Nm) (hp:Hp) (f:FuncId) (cs:List AV):rntP true τ hp (.fn f cs)=(∀c∈AV.cells (.fn f cs),rnBP true τ hp c):=rfl
theorem rntRT_fn (τ:Nm) (hp:Hp) (f:FuncId) (cs:List AV):rntR true τ hp (.fn f cs)=(AV.cells (.fn f cs)).flatMap (rnBR true τ hp):=rfl
theorem rnAT_agg (τ:Nm) (hp:Hp) (cs:List AV):rnA true τ hp (.agg cs)=fz 4 hp (.agg cs):=rfl
theorem rnAPT_agg (τ:Nm) (hp:Hp) (cs:List AV):rnAP true τ hp (.agg cs)=fzP 4 hp (.agg cs):=rfl
theorem rnART_agg (τ:Nm) (hp:Hp) (cs:List AV):rnAR true τ hp (.agg cs)=fzR 4 hp (.agg cs):=rfl
theorem rnBT_agg (τ:Nm) (hp:Hp) (cs:List AV):rnB true τ hp (.agg cs)=rnA true τ hp (.agg cs):=rfl
theorem rnBPT_agg (τ:Nm) (hp:Hp) (cs:List AV):rnBP true τ hp (.agg cs)=rnAP true τ hp (.agg cs):=rfl
theorem rnBRT_agg (τ:Nm) (hp:Hp) (cs:List AV):rnBR true τ hp (.agg cs)=rnAR true τ hp (.agg cs):=rfl
theorem rnKT_agg (τ:Nm) (hp:Hp) (cs:List AV):rnK true τ hp (.agg cs)=rnB true τ hp (.agg cs):=rfl
theorem rnKPT_agg (τ:Nm) (hp:Hp) (cs:List AV):rnKP true τ hp (.agg cs)=rnBP true τ hp (.agg cs):=rfl
theorem rnKRT_agg (τ:Nm) (hp:Hp) (cs:List AV):rnKR true τ hp (.agg cs)=rnBR true τ hp (.agg cs):=rfl
theorem rntT_agg (τ:Nm) (hp:Hp) (cs:List AV):rnt true τ hp (.agg cs)=mapc (rnB true τ hp) (.agg cs):=rfl
theorem rntPT_agg (τ:Nm) (hp:Hp) (cs:List AV):rntP true τ hp (.agg cs)=(∀c∈AV.cells (.agg cs),rnBP true τ hp c):=rfl
theorem rntRT_agg (τ:Nm) (hp:Hp) (cs:List AV):rntR true τ hp (.agg cs)=(AV.cells (.agg cs)).flatMap (rnBR true τ hp):=rfl
theorem rnAT_tup (τ:Nm) (hp:Hp) (vs:List AV):rnA true τ hp (.tup vs)=fz 4 hp (.tup vs):=rfl
theorem rnAPT_tup (τ:Nm) (hp:Hp) (vs:List AV):rnAP true τ hp (.tup vs)=fzP 4 hp (.tup vs):=rfl
theorem rnART_tup (τ:Nm) (hp:Hp) (vs:List AV):rnAR true τ hp (.tup vs)=fzR 4 hp (.tup vs):=rfl
theorem rnBT_tup (τ:Nm) (hp:Hp) (vs:List AV):rnB true τ hp (.tup vs)=rnA true τ hp (.tup vs):=rfl
theorem rnBPT_tup (τ:Nm) (hp:Hp) (vs:List AV):rnBP true τ hp (.tup vs)=rnAP true τ hp (.tup vs):=rfl
theorem rnBRT_tup (τ:Nm) (hp:Hp) (vs:List AV):rnBR true τ hp (.tup vs)=rnAR true τ hp (.tup vs):=rfl
theorem rnKT_tup (τ:Nm) (hp:Hp) (vs:List AV):rnK true τ hp (.tup vs)=rnB true τ hp (.tup vs):=rfl
theorem rnKPT_tup (τ:Nm) (hp:Hp) (vs:List AV):rnKP true τ hp (.tup vs)=rnBP true τ hp (.tup vs):=rfl
theorem rnKRT_tup (τ:Nm) (hp:Hp) (vs:List AV):rnKR true τ hp (.tup vs)=rnBR true τ hp (.tup vs):=rfl
theorem rntT_tup (τ:Nm) (hp:Hp) (vs:List AV):rnt true τ hp (.tup vs)= .tup (vs.map (fun v=>mapc (rnB true τ hp) v)):=rfl
theorem rntPT_tup (τ:Nm) (hp:Hp) (vs:List AV):rntP true τ hp (.tup vs)=(∀v∈vs,∀c∈v.cells,rnBP true τ hp c):=rfl
theorem rntRT_tup (τ:Nm) (hp:Hp) (vs:List AV):rntR true τ hp (.tup vs)=(vs.flatMap fun v=>v.cells.flatMap (rnBR true τ hp)):=rfl
theorem rnAT_mpO (τ:Nm) (hp:Hp) (id g:Nat):rnA true τ hp (.mpO id g)=fz 4 hp (.mpO id g):=rfl
theorem rnAPT_mpO (τ:Nm) (hp:Hp) (id g:Nat):rnAP true τ hp (.mpO id g)=fzP 4 hp (.mpO id g):=rfl
theorem rnART_mpO (τ:Nm) (hp:Hp) (id g:Nat):rnAR true τ hp (.mpO id g)=fzR 4 hp (.mpO id g):=rfl
theorem rnBT_mpO (τ:Nm) (hp:Hp) (id g:Nat):rnB true τ hp (.mpO id g)=rnA true τ hp (.mpO id g):=rfl
theorem rnBPT_mpO (τ:Nm) (hp:Hp) (id g:Nat):rnBP true τ hp (.mpO id g)=rnAP true τ hp (.mpO id g):=rfl
theorem rnBRT_mpO (τ:Nm) (hp:Hp) (id g:Nat):rnBR true τ hp (.mpO id g)=rnAR true τ hp (.mpO id g):=rfl
theorem rnKT_mpO (τ:Nm) (hp:Hp) (id g:Nat):rnK true τ hp (.mpO id g)=rnB true τ hp (.mpO id g):=rfl
theorem rnKPT_mpO (τ:Nm) (hp:Hp) (id g:Nat):rnKP true τ hp (.mpO id g)=rnBP true τ hp (.mpO id g):=rfl
theorem rnKRT_mpO (τ:Nm) (hp:Hp) (id g:Nat):rnKR true τ hp (.mpO id g)=rnBR true τ hp (.mpO id g):=rfl
theorem rntT_mpO (τ:Nm) (hp:Hp) (id g:Nat):rnt true τ hp (.mpO id g)=mapc (rnB true τ hp) (.mpO id g):=rfl
theorem rntPT_mpO (τ:Nm) (hp:Hp) (id g:Nat):rntP true τ hp (.mpO id g)=(∀c∈AV.cells (.mpO id g),rnBP true τ hp c):=rfl
theorem rntRT_mpO (τ:Nm) (hp:Hp) (id g:Nat):rntR true τ hp (.mpO id g)=(AV.cells (.mpO id g)).flatMap (rnBR true τ hp):=rfl
theorem rnAF_lit (τ:Nm) (hp:Hp) (v:Value):rnA false τ hp (.lit v)= .lit v:=rfl
theorem rnAPF_lit (τ:Nm) (hp:Hp) (v:Value):rnAP false τ hp (.lit v)=fzP 0 hp (.lit v):=rfl
theorem rnARF_lit (τ:Nm) (hp:Hp) (v:Value):rnAR false τ hp (.lit v)=[]:=rfl
theorem rnBF_lit (τ:Nm) (hp:Hp) (v:Value):rnB false τ hp (.lit v)=rnA false τ hp (.lit v):=rfl
theorem rnBPF_lit (τ:Nm) (hp:Hp) (v:Value):rnBP false τ hp (.lit v)=rnAP false τ hp (.lit v):=rfl
theorem rnBRF_lit (τ:Nm) (hp:Hp) (v:Value):rnBR false τ hp (.lit v)=rnAR false τ hp (.lit v):=rfl
theorem rnKF_lit (τ:Nm) (hp:Hp) (v:Value):rnK false τ hp (.lit v)=rnB false τ hp (.lit v):=rfl
theorem rnKPF_lit (τ:Nm) (hp:Hp) (v:Value):rnKP false τ hp (.lit v)=rnBP false τ hp (.lit v):=rfl
theorem rnKRF_lit (τ:Nm) (hp:Hp) (v:Value):rnKR false τ hp (.lit v)=rnBR false τ hp (.lit v):=rfl
theorem rntF_lit (τ:Nm) (hp:Hp) (v:Value):rnt false τ hp (.lit v)=mapc (rnB false τ hp) (.lit v):=rfl
theorem rntPF_lit (τ:Nm) (hp:Hp) (v:Value):rntP false τ hp (.lit v)=(∀c∈AV.cells (.lit v),rnBP false τ hp c):=rfl
theorem rntRF_lit (τ:Nm) (hp:Hp) (v:Value):rntR false τ hp (.lit v)=(AV.cells (.lit v)).flatMap (rnBR false τ hp):=rfl
theorem rnAF_sl (τ:Nm) (hp:Hp) (es:List AV) (b:Bool):rnA false τ hp (.sl es b)= .sl es b:=rfl
theorem rnAPF_sl (τ:Nm) (hp:Hp) (es:List AV) (b:Bool):rnAP false τ hp (.sl es b)=fzP 0 hp (.sl es b):=rfl
theorem rnARF_sl (τ:Nm) (hp:Hp) (es:List AV) (b:Bool):rnAR false τ hp (.sl es b)=[]:=rfl
theorem rnBF_sl (τ:Nm) (hp:Hp) (es:List AV) (b:Bool):rnB false τ hp (.sl es b)=rnA false τ hp (.sl es b):=rfl
theorem rnBPF_sl (τ:Nm) (hp:Hp) (es:List AV) (b:Bool):rnBP false τ hp (.sl es b)=rnAP false τ hp (.sl es b):=rfl
theorem rnBRF_sl (τ:Nm) (hp:Hp) (es:List AV) (b:Bool):rnBR false τ hp (.sl es b)=rnAR false τ hp (.sl es b):=rfl
theorem rnKF_sl (τ:Nm) (hp:Hp) (es:List AV) (b:Bool):rnK false τ hp (.sl es b)=rnB false τ hp (.sl es b):=rfl
theorem rnKPF_sl (τ:Nm) (hp:Hp) (es:List AV) (b:Bool):rnKP false τ hp (.sl es b)=rnBP false τ hp (.sl es b):=rfl
theorem rnKRF_sl (τ:Nm) (hp:Hp) (es:List AV) (b:Bool):rnKR false τ hp (.sl es b)=rnBR false τ hp (.sl es b):=rfl
theorem rntF_sl (τ:Nm) (hp:Hp) (es:List AV) (b:Bool):rnt false τ hp (.sl es b)=mapc (rnB false τ hp) (.sl es b):=rfl
theorem rntPF_sl (τ:Nm) (hp:Hp) (es:List AV) (b:Bool):rntP false τ hp (.sl es b)=(∀c∈AV.cells (.sl es b),rnBP false τ hp c):=rfl
theorem rntRF_sl (τ:Nm) (hp:Hp) (es:List AV) (b:Bool):rntR false τ hp (.sl es b)=(AV.cells (.sl es b)).flatMap (rnBR false τ hp):=rfl
theorem rnAF_kid (τ:Nm) (hp:Hp) (t k:Nat) (es:List AV):rnA false τ hp (.kid t k es)= .kid t k es:=rfl
theorem rnAPF_kid (τ:Nm) (hp:Hp) (t k:Nat) (es:List AV):rnAP false τ hp (.kid t k es)=fzP 0 hp (.kid t k es):=rfl
theorem rnARF_kid (τ:Nm) (hp:Hp) (t k:Nat) (es:List AV):rnAR false τ hp (.kid t k es)=[]:=rfl
theorem rnBF_kid (τ:Nm) (hp:Hp) (t k:Nat) (es:List AV):rnB false τ hp (.kid t k es)=rnA false τ hp (.kid t k es):=rfl
theorem rnBPF_kid (τ:Nm) (hp:Hp) (t k:Nat) (es:List AV):rnBP false τ hp (.kid t k es)=rnAP false τ hp (.kid t k es):=rfl
theorem rnBRF_kid (τ:Nm) (hp:Hp) (t k:Nat) (es:List AV):rnBR false τ hp (.kid t k es)=rnAR false τ hp (.kid t k es):=rfl
theorem rnKF_kid (τ:Nm) (hp:Hp) (t k:Nat) (es:List AV):rnK false τ hp (.kid t k es)= .kid t k es:=rfl
theorem rnKPF_kid (τ:Nm) (hp:Hp) (t k:Nat) (es:List AV):rnKP false τ hp (.kid t k es)=True:=rfl
theorem rnKRF_kid (τ:Nm) (hp:Hp) (t k:Nat) (es:List AV):rnKR false τ hp (.kid t k es)=[]:=rfl
theorem rntF_kid (τ:Nm) (hp:Hp) (t k:Nat) (es:List AV):rnt false τ hp (.kid t k es)=mapc (rnB false τ hp) (.kid t k es):=rfl
theorem rntPF_kid (τ:Nm) (hp:Hp) (t k:Nat) (es:List AV):rntP false τ hp (.kid t k es)=(∀c∈AV.cells (.kid t k es),rnBP false τ hp c):=rfl
theorem rntRF_kid (τ:Nm) (hp:Hp) (t k:Nat) (es:List AV):rntR false τ hp (.kid t k es)=(AV.cells (.kid t k es)).flatMap (rnBR false τ hp):=rfl
theorem rnAF_ptI (τ:Nm) (hp:Hp) (cs:List AV):rnA false τ hp (.ptI cs)= .ptI cs:=rfl
theorem rnAPF_ptI (τ:Nm) (hp:Hp) (cs:List AV):rnAP false τ hp (.ptI cs)=fzP 0 hp (.ptI cs):=rfl
theorem rnARF_ptI (τ:Nm) (hp:Hp) (cs:List AV):rnAR false τ hp (.ptI cs)=[]:=rfl
theorem rnBF_ptI (τ:Nm) (hp:Hp) (cs:List AV):rnB false τ hp (.ptI cs)=rnA false τ hp (.ptI cs):=rfl
theorem rnBPF_ptI (τ:Nm) (hp:Hp) (cs:List AV):rnBP false τ hp (.ptI cs)=rnAP false τ hp (.ptI cs):=rfl
theorem rnBRF_ptI (τ:Nm) (hp:Hp) (cs:List AV):rnBR false τ hp (.ptI cs)=rnAR false τ hp (.ptI cs):=rfl
theorem rnKF_ptI (τ:Nm) (hp:Hp) (cs:List AV):rnK false τ hp (.ptI cs)=rnB false τ hp (.ptI cs):=rfl
theorem rnKPF_ptI (τ:Nm) (hp:Hp) (cs:List AV):rnKP false τ hp (.ptI cs)=rnBP false τ hp (.ptI cs):=rfl
theorem rnKRF_ptI (τ:Nm) (hp:Hp) (cs:List AV):rnKR false τ hp (.ptI cs)=rnBR false τ hp (.ptI cs):=rfl
theorem rntF_ptI (τ:Nm) (hp:Hp) (cs:List AV):rnt false τ hp (.ptI cs)=mapc (rnB false τ hp) (.ptI cs):=rfl
theorem rntPF_ptI (τ:Nm) (hp:Hp) (cs:List AV):rntP false τ hp (.ptI cs)=(∀c∈AV.cells (.ptI cs),rnBP false τ hp c):=rfl
theorem rntRF_ptI (τ:Nm) (hp:Hp) (cs:List AV):rntR false τ hp (.ptI cs)=(AV.cells (.ptI cs)).flatMap (rnBR false τ hp):=rfl
theorem rnAF_gl (τ:Nm) (hp:Hp) (n:Nat):rnA false τ hp (.gl n)= .gl n:=rfl
theorem rnAPF_gl (τ:Nm) (hp:Hp) (n:Nat):rnAP false τ hp (.gl n)=fzP 0 hp (.gl n):=rfl
theorem rnARF_gl (τ:Nm) (hp:Hp) (n:Nat):rnAR false τ hp (.gl n)=[]:=rfl
theorem rnBF_gl (τ:Nm) (hp:Hp) (n:Nat):rnB false τ hp (.gl n)=rnA false τ hp (.gl n):=rfl
theorem rnBPF_gl (τ:Nm) (hp:Hp) (n:Nat):rnBP false τ hp (.gl n)=rnAP false τ hp (.gl n):=rfl
theorem rnBRF_gl (τ:Nm) (hp:Hp) (n:Nat):rnBR false τ hp (.gl n)=rnAR false τ hp (.gl n):=rfl
theorem rnKF_gl (τ:Nm) (hp:Hp) (n:Nat):rnK false τ hp (.gl n)=rnB false τ hp (.gl n):=rfl
theorem rnKPF_gl (τ:Nm) (hp:Hp) (n:Nat):rnKP false τ hp (.gl n)=rnBP false τ hp (.gl n):=rfl
theorem rnKRF_gl (τ:Nm) (hp:Hp) (n:Nat):rnKR false τ hp (.gl n)=rnBR false τ hp (.gl n):=rfl
theorem rntF_gl (τ:Nm) (hp:Hp) (n:Nat):rnt false τ hp (.gl n)=mapc (rnB false τ hp) (.gl n):=rfl
theorem rntPF_gl (τ:Nm) (hp:Hp) (n:Nat):rntP false τ hp (.gl n)=(∀c∈AV.cells (.gl n),rnBP false τ hp c):=rfl
theorem rntRF_gl (τ:Nm) (hp:Hp) (n:Nat):rntR false τ hp (.gl n)=(AV.cells (.gl n)).flatMap (rnBR false τ hp):=rfl
theorem rnAF_bad (τ:Nm) (hp:Hp):rnA false τ hp (.bad)= .bad:=rfl
theorem rnAPF_bad (τ:Nm) (hp:Hp):rnAP false τ hp (.bad)=fzP 0 hp (.bad):=rfl
theorem rnARF_bad (τ:Nm) (hp:Hp):rnAR false τ hp (.bad)=[]:=rfl
theorem rnBF_bad (τ:Nm) (hp:Hp):rnB false τ hp (.bad)=rnA false τ hp (.bad):=rfl
theorem rnBPF_bad (τ:Nm) (hp:Hp):rnBP false τ hp (.bad)=rnAP false τ hp (.bad):=rfl
theorem rnBRF_bad (τ:Nm) (hp:Hp):rnBR false τ hp (.bad)=rnAR false τ hp (.bad):=rfl
theorem rnKF_bad (τ:Nm) (hp:Hp):rnK false τ hp (.bad)=rnB false τ hp (.bad):=rfl
theorem rnKPF_bad (τ:Nm) (hp:Hp):rnKP false τ hp (.bad)=rnBP false τ hp (.bad):=rfl
theorem rnKRF_bad (τ:Nm) (hp:Hp):rnKR false τ hp (.bad)=rnBR false τ hp (.bad):=rfl
theorem rntF_bad (τ:Nm) (hp:Hp):rnt false τ hp (.bad)=mapc (rnB false τ hp) (.bad):=rfl
theorem rntPF_bad (τ:Nm) (hp:Hp):rntP false τ hp (.bad)=(∀c∈AV.cells (.bad),rnBP false τ hp c):=rfl
theorem rntRF_bad (τ:Nm) (hp:Hp):rntR false τ hp (.bad)=(AV.cells (.bad)).flatMap (rnBR false τ hp):=rfl
theorem rnAF_slO (τ:Nm) (hp:Hp) (id g off len:Nat):rnA false τ hp (.slO id g off len)=(match lk τ id with|some (i',gi,ga)=>if g=ga then .slO i' gi off len else .bad|none=>fz 4 hp (.slO id g off len)):=rfl
theorem rnAPF_slO (τ:Nm) (hp:Hp) (id g off len:Nat):rnAP false τ hp (.slO id g off len)=(match lk τ id with|some (_,_,ga)=>g=ga|none=>fzP 4 hp (.slO id g off len)):=rfl
theorem rnARF_slO (τ:Nm) (hp:Hp) (id g off len:Nat):rnAR false τ hp (.slO id g off len)=(match lk τ id with|some _=>[]|none=>fzR 4 hp (.slO id g off len)):=rfl
theorem rnBF_slO (τ:Nm) (hp:Hp) (id g off len:Nat):rnB false τ hp (.slO id g off len)=rnA false τ hp (.slO id g off len):=rfl
theorem rnBPF_slO (τ:Nm) (hp:Hp) (id g off len:Nat):rnBP false τ hp (.slO id g off len)=rnAP false τ hp (.slO id g off len):=rfl
theorem rnBRF_slO (τ:Nm) (hp:Hp) (id g off len:Nat):rnBR false τ hp (.slO id g off len)=rnAR false τ hp (.slO id g off len):=rfl
theorem rnKF_slO (τ:Nm) (hp:Hp) (id g off len:Nat):rnK false τ hp (.slO id g off len)=rnB false τ hp (.slO id g off len):=rfl
theorem rnKPF_slO (τ:Nm) (hp:Hp) (id g off len:Nat):rnKP false τ hp (.slO id g off len)=rnBP false τ hp (.slO id g off len):=rfl
theorem rnKRF_slO (τ:Nm) (hp:Hp) (id g off len:Nat):rnKR false τ hp (.slO id g off len)=rnBR false τ hp (.slO id g off len):=rfl
theorem rntF_slO (τ:Nm) (hp:Hp) (id g off len:Nat):rnt false τ hp (.slO id g off len)=mapc (rnB false τ hp) (.slO id g off len):=rfl
theorem rntPF_slO (τ:Nm) (hp:Hp) (id g off len:Nat):rntP false τ hp (.slO id g off len)=(∀c∈AV.cells (.slO id g off len),rnBP false τ hp c):=rfl
theorem rntRF_slO (τ:Nm) (hp:Hp) (id g off len:Nat):rntR false τ hp (.slO id g off len)=(AV.cells (.slO id g off len)).flatMap (rnBR false τ hp):=rfl
theorem rnAF_ptO (τ:Nm) (hp:Hp) (id g n i off:Nat):rnA false τ hp (.ptO id g n i off)=(match lk τ id with|some (i',gi,ga)=>if g=ga then .ptO i' gi n i off else .bad|none=>fz 4 hp (.ptO id g n i off)):=rfl
theorem rnAPF_ptO (τ:Nm) (hp:Hp) (id g n i off:Nat):rnAP false τ hp (.ptO id g n i off)=(match lk τ id with|some (_,_,ga)=>g=ga|none=>fzP 4 hp (.ptO id g n i off)):=rfl
theorem rnARF_ptO (τ:Nm) (hp:Hp) (id g n i off:Nat):rnAR false τ hp (.ptO id g n i off)=(match lk τ id with|some _=>[]|none=>fzR 4 hp (.ptO id g n i off)):=rfl
theorem rnBF_ptO (τ:Nm) (hp:Hp) (id g n i off:Nat):rnB false τ hp (.ptO id g n i off)=rnA false τ hp (.ptO id g n i off):=rfl
theorem rnBPF_ptO (τ:Nm) (hp:Hp) (id g n i off:Nat):rnBP false τ hp (.ptO id g n i off)=rnAP false τ hp (.ptO id g n i off):=rfl
theorem rnBRF_ptO (τ:Nm) (hp:Hp) (id g n i off:Nat):rnBR false τ hp (.ptO id g n i off)=rnAR false τ hp (.ptO id g n i off):=rfl
theorem rnKF_ptO (τ:Nm) (hp:Hp) (id g n i off:Nat):rnK false τ hp (.ptO id g n i off)=rnB false τ hp (.ptO id g n i off):=rfl
theorem rnKPF_ptO (τ:Nm) (hp:Hp) (id g n i off:Nat):rnKP false τ hp (.ptO id g n i off)=rnBP false τ hp (.ptO id g n i off):=rfl
theorem rnKRF_ptO (τ:Nm) (hp:Hp) (id g n i off:Nat):rnKR false τ hp (.ptO id g n i off)=rnBR false τ hp (.ptO id g n i off):=rfl
theorem rntF_ptO (τ:Nm) (hp:Hp) (id g n i off:Nat):rnt false τ hp (.ptO id g n i off)=mapc (rnB false τ hp) (.ptO id g n i off):=rfl
theorem rntPF_ptO (τ:Nm) (hp:Hp) (id g n i off:Nat):rntP false τ hp (.ptO id g n i off)=(∀c∈AV.cells (.ptO id g n i off),rnBP false τ hp c):=rfl
theorem rntRF_ptO (τ:Nm) (hp:Hp) (id g n i off:Nat):rntR false τ hp (.ptO id g n i off)=(AV.cells (.ptO id g n i off)).flatMap (rnBR false τ hp):=rfl
theorem rnAF_fn (τ:Nm) (hp:Hp) (f:FuncId) (cs:List AV):rnA false τ hp (.fn f cs)= .fn f cs:=rfl
theorem rnAPF_fn (τ:Nm) (hp:Hp) (f:FuncId) (cs:List AV):rnAP false τ hp (.fn f cs)=fzP 0 hp (.fn f cs):=rfl
theorem rnARF_fn (τ:Nm) (hp:Hp) (f:FuncId) (cs:List AV):rnAR false τ hp (.fn f cs)=[]:=rfl
theorem rnBF_fn (τ:Nm) (hp:Hp) (f:FuncId) (cs:List AV):rnB false τ hp (.fn f cs)= .fn f (cs.map (rnA false τ hp)):=rfl
theorem rnBPF_fn (τ:Nm) (hp:Hp) (f:FuncId) (cs:List AV):rnBP false τ hp (.fn f cs)=(∀c∈cs,rnAP false τ hp c):=rfl
theorem rnBRF_fn (τ:Nm) (hp:Hp) (f:FuncId) (cs:List AV):rnBR false τ hp (.fn f cs)=cs.flatMap (rnAR false τ hp):=rfl
theorem rnKF_fn (τ:Nm) (hp:Hp) (f:FuncId) (cs:List AV):rnK false τ hp (.fn f cs)=rnB false τ hp (.fn f cs):=rfl
theorem rnKPF_fn (τ:Nm) (hp:Hp) (f:FuncId) (cs:List AV):rnKP false τ hp (.fn f cs)=rnBP false τ hp (.fn f cs):=rfl
theorem rnKRF_fn (τ:Nm) (hp:Hp) (f:FuncId) (cs:List AV):rnKR false τ hp (.fn f cs)=rnBR false τ hp (.fn f cs):=rfl
theorem rntF_fn (τ:Nm) (hp:Hp) (f:FuncId) (cs:List AV):rnt false τ hp (.fn f cs)=mapc (rnB false τ hp) (.fn f cs):=rfl
theorem rntPF_fn (τ:Nm) (hp:Hp) (f:FuncId) (cs:List AV):rntP false τ hp (.fn f cs)=(∀c∈AV.cells (.fn f cs),rnBP false τ hp c):=rfl
theorem rntRF_fn (τ:Nm) (hp:Hp) (f:FuncId) (cs:List AV):rntR false τ hp (.fn f cs)=(AV.cells (.fn f cs)).flatMap (rnBR false τ hp):=rfl
theorem rnAF_agg (τ:Nm) (hp:Hp) (cs:List AV):rnA false τ hp (.agg cs)= .agg cs:=rfl
theorem rnAPF_agg (τ:Nm) (hp:Hp) (cs:List AV):rnAP false τ hp (.agg cs)=fzP 0 hp (.agg cs):=rfl
theorem rnARF_agg (τ:Nm) (hp:Hp) (cs:List AV):rnAR false τ hp (.agg cs)=[]:=rfl
theorem rnBF_agg (τ:Nm) (hp:Hp) (cs:List AV):rnB false τ hp (.agg cs)=rnA false τ hp (.agg cs):=rfl
theorem rnBPF_agg (τ:Nm) (hp:Hp) (cs:List AV):rnBP false τ hp (.agg cs)=rnAP false τ hp (.agg cs):=rfl
theorem rnBRF_agg (τ:Nm) (hp:Hp) (cs:List AV):rnBR false τ hp (.agg cs)=rnAR false τ hp (.agg cs):=rfl
theorem rnKF_agg (τ:Nm) (hp:Hp) (cs:List AV):rnK false τ hp (.agg cs)=rnB false τ hp (.agg cs):=rfl
theorem rnKPF_agg (τ:Nm) (hp:Hp) (cs:List AV):rnKP false τ hp (.agg cs)=rnBP false τ hp (.agg cs):=rfl
theorem rnKRF_agg (τ:Nm) (hp:Hp) (cs:List AV):rnKR false τ hp (.agg cs)=rnBR false τ hp (.agg cs):=rfl
theorem rntF_agg (τ:Nm) (hp:Hp) (cs:List AV):rnt false τ hp (.agg cs)=mapc (rnB false τ hp) (.agg cs):=rfl
theorem rntPF_agg (τ:Nm) (hp:Hp) (cs:List AV):rntP false τ hp (.agg cs)=(∀c∈AV.cells (.agg cs),rnBP false τ hp c):=rfl
theorem rntRF_agg (τ:Nm) (hp:Hp) (cs:List AV):rntR false τ hp (.agg cs)=(AV.cells (.agg cs)).flatMap (rnBR false τ hp):=rfl
theorem rnAF_tup (τ:Nm) (hp:Hp) (vs:List AV):rnA false τ hp (.tup vs)= .tup vs:=rfl
theorem rnAPF_tup (τ:Nm) (hp:Hp) (vs:List AV):rnAP false τ hp (.tup vs)=fzP 0 hp (.tup vs):=rfl
theorem rnARF_tup (τ:Nm) (hp:Hp) (vs:List AV):rnAR false τ hp (.tup vs)=[]:=rfl
theorem rnBF_tup (τ:Nm) (hp:Hp) (vs:List AV):rnB false τ hp (.tup vs)=rnA false τ hp (.tup vs):=rfl
theorem rnBPF_tup (τ:Nm) (hp:Hp) (vs:List AV):rnBP false τ hp (.tup vs)=rnAP false τ hp (.tup vs):=rfl
theorem rnBRF_tup (τ:Nm) (hp:Hp) (vs:List AV):rnBR false τ hp (.tup vs)=rnAR false τ hp (.tup vs):=rfl
theorem rnKF_tup (τ:Nm) (hp:Hp) (vs:List AV):rnK false τ hp (.tup vs)=rnB false τ hp (.tup vs):=rfl
theorem rnKPF_tup (τ:Nm) (hp:Hp) (vs:List AV):rnKP false τ hp (.tup vs)=rnBP false τ hp (.tup vs):=rfl
theorem rnKRF_tup (τ:Nm) (hp:Hp) (vs:List AV):rnKR false τ hp (.tup vs)=rnBR false τ hp (.tup vs):=rfl
theorem rntF_tup (τ:Nm) (hp:Hp) (vs:List AV):rnt false τ hp (.tup vs)= .tup (vs.map (fun v=>mapc (rnB false τ hp) v)):=rfl
theorem rntPF_tup (τ:Nm) (hp:Hp) (vs:List AV):rntP false τ hp (.tup vs)=(∀v∈vs,∀c∈v.cells,rnBP false τ hp c):=rfl
theorem rntRF_tup (τ:Nm) (hp:Hp) (vs:List AV):rntR false τ hp (.tup vs)=(vs.flatMap fun v=>v.cells.flatMap (rnBR false τ hp)):=rfl
theorem rnAF_mpO (τ:Nm) (hp:Hp) (id g:Nat):rnA false τ hp (.mpO id g)= .mpO id g:=rfl
theorem rnAPF_mpO (τ:Nm) (hp:Hp) (id g:Nat):rnAP false τ hp (.mpO id g)=fzP 0 hp (.mpO id g):=rfl
theorem rnARF_mpO (τ:Nm) (hp:Hp) (id g:Nat):rnAR false τ hp (.mpO id g)=[]:=rfl
theorem rnBF_mpO (τ:Nm) (hp:Hp) (id g:Nat):rnB false τ hp (.mpO id g)=rnA false τ hp (.mpO id g):=rfl
theorem rnBPF_mpO (τ:Nm) (hp:Hp) (id g:Nat):rnBP false τ hp (.mpO id g)=rnAP false τ hp (.mpO id g):=rfl
theorem rnBRF_mpO (τ:Nm) (hp:Hp) (id g:Nat):rnBR false τ hp (.mpO id g)=rnAR false τ hp (.mpO id g):=rfl
theorem rnKF_mpO (τ:Nm) (hp:Hp) (id g:Nat):rnK false τ hp (.mpO id g)=rnB false τ hp (.mpO id g):=rfl
theorem rnKPF_mpO (τ:Nm) (hp:Hp) (id g:Nat):rnKP false τ hp (.mpO id g)=rnBP false τ hp (.mpO id g):=rfl
theorem rnKRF_mpO (τ:Nm) (hp:Hp) (id g:Nat):rnKR false τ hp (.mpO id g)=rnBR false τ hp (.mpO id g):=rfl
theorem rntF_mpO (τ:Nm) (hp:Hp) (id g:Nat):rnt false τ hp (.mpO id g)=mapc (rnB false τ hp) (.mpO id g):=rfl
theorem rntPF_mpO (τ:Nm) (hp:Hp) (id g:Nat):rntP false τ hp (.mpO id g)=(∀c∈AV.cells (.mpO id g),rnBP false τ hp c):=rfl
theorem rntRF_mpO (τ:Nm) (hp:Hp) (id g:Nat):rntR false τ hp (.mpO id g)=(AV.cells (.mpO id g)).flatMap (rnBR false τ hp):=rfl
theorem trT_lit (L:List Nat) (v:Value):trA true L (.lit v)=True:=by simp[trA]
theorem trtT_lit (L:List Nat) (v:Value):trt true L (.lit v)=(∀c∈AV.cells (.lit v),trA true L c):=rfl
theorem trT_sl (L:List Nat) (es:List AV) (b:Bool):trA true L (.sl es b)=(es=[]/\b=true):=by simp[trA]
theorem trtT_sl (L:List Nat) (es:List AV) (b:Bool):trt true L (.sl es b)=(∀c∈AV.cells (.sl es b),trA true L c):=rfl
theorem trT_kid (L:List Nat) (t k:Nat) (es:List AV):trA true L (.kid t k es)=(∀e∈es,∀c∈e.cells,isLit c):=by simp[trA]
theorem trtT_kid (L:List Nat) (t k:Nat) (es:List AV):trt true L (.kid t k es)=(∀c∈AV.cells (.kid t k es),trA true L c):=rfl
theorem trT_ptI (L:List Nat) (cs:List AV):trA true L (.ptI cs)=False:=by simp[trA]
theorem trtT_ptI (L:List Nat) (cs:List AV):trt true L (.ptI cs)=(∀c∈AV.cells (.ptI cs),trA true L c):=rfl
theorem trT_gl (L:List Nat) (n:Nat):trA true L (.gl n)=True:=by simp[trA]
theorem trtT_gl (L:List Nat) (n:Nat):trt true L (.gl n)=(∀c∈AV.cells (.gl n),trA true L c):=rfl
theorem trT_bad (L:List Nat):trA true L (.bad)=True:=by simp[trA]
theorem trtT_bad (L:List Nat):trt true L (.bad)=(∀c∈AV.cells (.bad),trA true L c):=rfl
theorem trT_slO (L:List Nat) (id g off len:Nat):trA true L (.slO id g off len)=(id∈L):=by simp[trA]
theorem trtT_slO (L:List Nat) (id g off len:Nat):trt true L (.slO id g off len)=(∀c∈AV.cells (.slO id g off len),trA true L c):=rfl
theorem trT_ptO (L:List Nat) (id g n i off:Nat):trA true L (.ptO id g n i off)=(id∈L):=by simp[trA]
theorem trtT_ptO (L:List Nat) (id g n i off:Nat):trt true L (.ptO id g n i off)=(∀c∈AV.cells (.ptO id g n i off),trA true L c):=rfl
theorem trT_fn (L:List Nat) (f:FuncId) (cs:List AV):trA true L (.fn f cs)=False:=by simp[trA]
theorem trtT_fn (L:List Nat) (f:FuncId) (cs:List AV):trt true L (.fn f cs)=(∀c∈AV.cells (.fn f cs),trA true L c):=rfl
theorem trT_agg (L:List Nat) (cs:List AV):trA true L (.agg cs)=False:=by simp[trA]
theorem trtT_agg (L:List Nat) (cs:List AV):trt true L (.agg cs)=(∀c∈AV.cells (.agg cs),trA true L c):=rfl
theorem trT_tup (L:List Nat) (vs:List AV):trA true L (.tup vs)=False:=by simp[trA]
theorem trtT_tup (L:List Nat) (vs:List AV):trt true L (.tup vs)=(∀v∈vs,∀c∈v.cells,trA true L c):=rfl
theorem trT_mpO (L:List Nat) (id g:Nat):trA true L (.mpO id g)=False:=by simp[trA]
theorem trtT_mpO (L:List Nat) (id g:Nat):trt true L (.mpO id g)=(∀c∈AV.cells (.mpO id g),trA true L c):=rfl
theorem trF_lit (L:List Nat) (v:Value):trA false L (.lit v)=True:=by simp[trA]
theorem trtF_lit (L:List Nat) (v:Value):trt false L (.lit v)=(∀c∈AV.cells (.lit v),trA false L c):=rfl
theorem trF_sl (L:List Nat) (es:List AV) (b:Bool):trA false L (.sl es b)=True:=by simp[trA]
theorem trtF_sl (L:List Nat) (es:List AV) (b:Bool):trt false L (.sl es b)=(∀c∈AV.cells (.sl es b),trA false L c):=rfl
theorem trF_kid (L:List Nat) (t k:Nat) (es:List AV):trA false L (.kid t k es)=True:=by simp[trA]
theorem trtF_kid (L:List Nat) (t k:Nat) (es:List AV):trt false L (.kid t k es)=(∀c∈AV.cells (.kid t k es),trA false L c):=rfl
theorem trF_ptI (L:List Nat) (cs:List AV):trA false L (.ptI cs)=True:=by simp[trA]
theorem trtF_ptI (L:List Nat) (cs:List AV):trt false L (.ptI cs)=(∀c∈AV.cells (.ptI cs),trA false L c):=rfl
theorem trF_gl (L:List Nat) (n:Nat):trA false L (.gl n)=True:=by simp[trA]
theorem trtF_gl (L:List Nat) (n:Nat):trt false L (.gl n)=(∀c∈AV.cells (.gl n),trA false L c):=rfl
theorem trF_bad (L:List Nat):trA false L (.bad)=True:=by simp[trA]
theorem trtF_bad (L:List Nat):trt false L (.bad)=(∀c∈AV.cells (.bad),trA false L c):=rfl
theorem trF_slO (L:List Nat) (id g off len:Nat):trA false L (.slO id g off len)=(id∈L):=by simp[trA]
theorem trtF_slO (L:List Nat) (id g off len:Nat):trt false L (.slO id g off len)=(∀c∈AV.cells (.slO id g off len),trA false L c):=rfl
theorem trF_ptO (L:List Nat) (id g n i off:Nat):trA false L (.ptO id g n i off)=(id∈L):=by simp[trA]
theorem trtF_ptO (L:List Nat) (id g n i off:Nat):trt false L (.ptO id g n i off)=(∀c∈AV.cells (.ptO id g n i off),trA false L c):=rfl
theorem trF_fn (L:List Nat) (f:FuncId) (cs:List AV):trA false L (.fn f cs)=(∀c∈cs,match c with| .slO id _ _ _=>id∈L| .ptO id _ _ _ _=>id∈L| .lit _| .sl _ _| .ptI _| .gl _=>True|_=>False):=propext ⟨fun h=>h.2,fun h=>⟨rfl,h⟩⟩
theorem trtF_fn (L:List Nat) (f:FuncId) (cs:List AV):trt false L (.fn f cs)=(∀c∈AV.cells (.fn f cs),trA false L c):=rfl
theorem trF_agg (L:List Nat) (cs:List AV):trA false L (.agg cs)=False:=by simp[trA]
theorem trtF_agg (L:List Nat) (cs:List AV):trt false L (.agg cs)=(∀c∈AV.cells (.agg cs),trA false L c):=rfl
theorem trF_tup (L:List Nat) (vs:List AV):trA false L (.tup vs)=False:=by simp[trA]
theorem trtF_tup (L:List Nat) (vs:List AV):trt false L (.tup vs)=(∀v∈vs,∀c∈v.cells,trA false L c):=rfl
theorem trF_mpO (L:List Nat) (id g:Nat):trA false L (.mpO id g)=False:=by simp[trA]
theorem trtF_mpO (L:List Nat) (id g:Nat):trt false L (.mpO id g)=(∀c∈AV.cells (.mpO id g),trA false L c):=rfl
theorem rnO_own (m:Bool) (τ:Nm) (hp:Hp) (t k:Nat) (es:List AV):rnO m τ hp (.own t k es)= .own t k (es.map (mapc (rnK m τ hp))):=rfl
theorem rnO_box (m:Bool) (τ:Nm) (hp:Hp) (cs:List AV):rnO m τ hp (.box cs)= .box (cs.map (rnB m τ hp)):=rfl
theorem rnOP_own (m:Bool) (τ:Nm) (hp:Hp) (t k:Nat) (es:List AV):rnOP m τ hp (.own t k es)=(∀e∈es,∀c∈e.cells,rnKP m τ hp c):=rfl
theorem rnOP_box (m:Bool) (τ:Nm) (hp:Hp) (cs:List AV):rnOP m τ hp (.box cs)=(∀c∈cs,rnBP m τ hp c):=rfl
theorem rnOR_own (m:Bool) (τ:Nm) (hp:Hp) (t k:Nat) (es:List AV):rnOR m τ hp (.own t k es)=(es.flatMap fun e=>e.cells.flatMap (rnKR m τ hp)):=rfl
theorem rnOR_box (m:Bool) (τ:Nm) (hp:Hp) (cs:List AV):rnOR m τ hp (.box cs)=cs.flatMap (rnBR m τ hp):=rfl
theorem trO_own (k':Bool) (L:List Nat) (t k:Nat) (es:List AV):trO k' L (.own t k es)=(∀e∈es,∀c∈e.cells,trA k' L c):=rfl
theorem trO_box (k':Bool) (L:List Nat) (cs:List AV):trO k' L (.box cs)=(∀c∈cs,trA k' L c):=rfl
theorem trH_nil (k':Bool) (L:List Nat):trH k' L []=True:=rfl
theorem trH_some (k':Bool) (L:List Nat) (i g:Nat) (ob:Ob) (h:Hp):trH k' L ((i,some (g,ob))::h)=(trO k' L ob/\trH k' L h):=rfl
theorem trH_none (k':Bool) (L:List Nat) (i:Nat) (h:Hp):trH k' L ((i,none)::h)=trH k' L h:=rfl
theorem rnH_def (m:Bool) (τ:Nm) (hp:Hp):rnH m τ hp=τ.map fun q=>(q.1,(hp.get q.2.2.1).map fun x=>(q.2.1,rnO m τ hp x.2)):=rfl
theorem isNil_tmp (n:Nat):isNil (.tmp n)=false:=rfl
theorem isNil_int (k:IntKind) (n:Int):isNil (.const (.int k n))=false:=rfl
theorem isNil_bool (b:Bool):isNil (.const (.bool b))=false:=rfl
theorem isNil_string (s:ByteArray):isNil (.const (.string s))=false:=rfl
theorem isNil_nil:isNil (.const (.slice none 0 0))=true:=rfl
theorem bopB_f (op:BinOp) (ti:TI) (x y:AV):bopB false op ti x y=bop op ti x y:=rfl
theorem bopB_eql (ti:TI) (es:List AV) (f:Bool) (y:AV):bopB true .eql ti (.sl es f) y=(match ti.ty with| .slice _=> .val (0<es.length) (.lit (.bool false))|_=> .no):=by unfold bopB;cases ti.ty<;>rfl
theorem bopB_neq (ti:TI) (es:List AV) (f:Bool) (y:AV):bopB true .neq ti (.sl es f) y=(match ti.ty with| .slice _=> .val (0<es.length) (.lit (.bool true))|_=> .no):=by unfold bopB;cases ti.ty<;>rfl
theorem glob_gl (T:Tab) (n:Nat):glob T (.gl n)=(match glu T.gl n with|some cs=> .ptI cs|none=> .gl n):=rfl
theorem glob_lit (T:Tab) (v:Value):glob T (.lit v)= .lit v:=rfl
theorem glob_sl (T:Tab) (es:List AV) (b:Bool):glob T (.sl es b)= .sl es b:=rfl
theorem glob_kid (T:Tab) (t k:Nat) (es:List AV):glob T (.kid t k es)= .kid t k es:=rfl
theorem glob_ptI (T:Tab) (cs:List AV):glob T (.ptI cs)= .ptI cs:=rfl
theorem glob_bad (T:Tab):glob T (.bad)= .bad:=rfl
theorem glob_slO (T:Tab) (id g off len:Nat):glob T (.slO id g off len)= .slO id g off len:=rfl
theorem glob_ptO (T:Tab) (id g n i off:Nat):glob T (.ptO id g n i off)= .ptO id g n i off:=rfl
theorem glob_fn (T:Tab) (f:FuncId) (cs:List AV):glob T (.fn f cs)= .fn f cs:=rfl
theorem glob_agg (T:Tab) (cs:List AV):glob T (.agg cs)= .agg cs:=rfl
theorem glob_tup (T:Tab) (vs:List AV):glob T (.tup vs)= .tup vs:=rfl
theorem glob_mpO (T:Tab) (id g:Nat):glob T (.mpO id g)= .mpO id g:=rfl
theorem setc_lit (off:Nat) (u:AV) (v:Value):setc (.lit v) off u=u:=rfl
theorem setc_sl (off:Nat) (u:AV) (es:List AV) (b:Bool):setc (.sl es b) off u=u:=rfl
theorem setc_kid (off:Nat) (u:AV) (t k:Nat) (es:List AV):setc (.kid t k es) off u=u:=rfl
theorem setc_ptI (off:Nat) (u:AV) (cs:List AV):setc (.ptI cs) off u=u:=rfl
theorem setc_gl (off:Nat) (u:AV) (n:Nat):setc (.gl n) off u=u:=rfl
theorem setc_bad (off:Nat) (u:AV):setc (.bad) off u=u:=rfl
theorem setc_slO (off:Nat) (u:AV) (id g off len:Nat):setc (.slO id g off len) off u=u:=rfl
theorem setc_ptO (off:Nat) (u:AV) (id g n i off:Nat):setc (.ptO id g n i off) off u=u:=rfl
theorem setc_fn (off:Nat) (u:AV) (f:FuncId) (cs:List AV):setc (.fn f cs) off u=u:=rfl
theorem setc_agg (off:Nat) (u:AV) (cs:List AV):setc (.agg cs) off u= .agg (cs.set off u):=rfl
theorem setc_tup (off:Nat) (u:AV) (vs:List AV):setc (.tup vs) off u=u:=rfl
theorem setc_mpO (off:Nat) (u:AV) (id g:Nat):setc (.mpO id g) off u=u:=rfl
theorem pe_fz0 {es:List AV} (h:PE es) (hp:Hp):es.map (mapc (fz 0 hp))=es:=h.fz 0 hp
theorem pe_fzP0 {es:List AV} (h:PE es) (hp:Hp):(∀e∈es,∀c∈e.cells,fzP 0 hp c)=True:=eq_true (h.fzP 0 hp)
theorem pe_fzR0 {es:List AV} (h:PE es) (hp:Hp):(es.flatMap fun e=>e.cells.flatMap (fzR 0 hp))=[]:=h.fzR 0 hp
theorem pe_fz1 {es:List AV} (h:PE es) (hp:Hp):es.map (mapc (fz 1 hp))=es:=h.fz 1 hp
theorem pe_fzP1 {es:List AV} (h:PE es) (hp:Hp):(∀e∈es,∀c∈e.cells,fzP 1 hp c)=True:=eq_true (h.fzP 1 hp)
theorem pe_fzR1 {es:List AV} (h:PE es) (hp:Hp):(es.flatMap fun e=>e.cells.flatMap (fzR 1 hp))=[]:=h.fzR 1 hp
theorem pe_fz2 {es:List AV} (h:PE es) (hp:Hp):es.map (mapc (fz 2 hp))=es:=h.fz 2 hp
theorem pe_fzP2 {es:List AV} (h:PE es) (hp:Hp):(∀e∈es,∀c∈e.cells,fzP 2 hp c)=True:=eq_true (h.fzP 2 hp)
theorem pe_fzR2 {es:List AV} (h:PE es) (hp:Hp):(es.flatMap fun e=>e.cells.flatMap (fzR 2 hp))=[]:=h.fzR 2 hp
theorem pe_fz3 {es:List AV} (h:PE es) (hp:Hp):es.map (mapc (fz 3 hp))=es:=h.fz 3 hp
theorem pe_fzP3 {es:List AV} (h:PE es) (hp:Hp):(∀e∈es,∀c∈e.cells,fzP 3 hp c)=True:=eq_true (h.fzP 3 hp)
theorem pe_fzR3 {es:List AV} (h:PE es) (hp:Hp):(es.flatMap fun e=>e.cells.flatMap (fzR 3 hp))=[]:=h.fzR 3 hp
theorem pe_fz4 {es:List AV} (h:PE es) (hp:Hp):es.map (mapc (fz 4 hp))=es:=h.fz 4 hp
theorem pe_fzP4 {es:List AV} (h:PE es) (hp:Hp):(∀e∈es,∀c∈e.cells,fzP 4 hp c)=True:=eq_true (h.fzP 4 hp)
theorem pe_fzR4 {es:List AV} (h:PE es) (hp:Hp):(es.flatMap fun e=>e.cells.flatMap (fzR 4 hp))=[]:=h.fzR 4 hp
theorem pe_fzk {es:List AV} (h:PE es) (hp:Hp):es.map (mapc (fzk hp))=es:=h.fzk hp
theorem pe_att {es:List AV} (h:PE es) (hp:Hp):es.map (mapc (att hp))=es:=h.att hp
theorem pe_attP {es:List AV} (h:PE es) (hp:Hp):(∀e∈es,∀c∈e.cells,attP hp c)=True:=eq_true (h.attP hp)
theorem pe_esR {es:List AV} (h:PE es):esR es=[]:=h.esR
theorem pe_rnKT {es:List AV} (h:PE es) (τ:Nm) (hp:Hp):es.map (mapc (rnK true τ hp))=es:=h.rnK true τ hp
theorem pe_rnKPT {es:List AV} (h:PE es) (τ:Nm) (hp:Hp):(∀e∈es,∀c∈e.cells,rnKP true τ hp c)=True:=eq_true (h.rnKP true τ hp)
theorem pe_rnKRT {es:List AV} (h:PE es) (τ:Nm) (hp:Hp):(es.flatMap fun e=>e.cells.flatMap (rnKR true τ hp))=[]:=h.rnKR true τ hp
theorem pe_rnKF {es:List AV} (h:PE es) (τ:Nm) (hp:Hp):es.map (mapc (rnK false τ hp))=es:=h.rnK false τ hp
theorem pe_rnKPF {es:List AV} (h:PE es) (τ:Nm) (hp:Hp):(∀e∈es,∀c∈e.cells,rnKP false τ hp c)=True:=eq_true (h.rnKP false τ hp)
theorem pe_rnKRF {es:List AV} (h:PE es) (τ:Nm) (hp:Hp):(es.flatMap fun e=>e.cells.flatMap (rnKR false τ hp))=[]:=h.rnKR false τ hp
theorem pe_tr {es:List AV} (h:PE es) (L:List Nat):(∀e∈es,∀c∈e.cells,trA false L c)=True:=eq_true (h.tr L)
theorem esR_nil:esR []=[]:=rfl
theorem esR_cons (e:AV) (es:List AV):esR (e::es)=e.cells.flatMap attR++esR es:=rfl
theorem isLit_lit (v:Value):isLit (.lit v)=True:=rfl
theorem lits_ints (l:List Int):(∀e∈ints l,∀c∈e.cells,isLit c)=True:=by
 refine eq_true fun e he c hc=>?_
 simp only[ints,List.mem_map] at he
 obtain⟨x,_,rfl⟩:=he
 simp only[AV.cells,List.mem_singleton] at hc
 subst hc;trivial
theorem trT_ints (L:List Nat) (l:List Int):(∀e∈ints l,∀c∈e.cells,trA true L c)=True:=by
 refine eq_true fun e he c hc=>?_
 simp only[ints,List.mem_map] at he
 obtain⟨x,_,rfl⟩:=he
 simp only[AV.cells,List.mem_singleton] at hc
 subst hc;trivial
theorem parts_0:partsOk 0 []=true:=rfl
theorem parts_1 (x0:Operand):partsOk 1 [(0,x0)]=true:=rfl
theorem parts_2 (x0 x1:Operand):partsOk 2 [(0,x0),(1,x1)]=true:=rfl
theorem parts_3 (x0 x1 x2:Operand):partsOk 3 [(0,x0),(1,x1),(2,x2)]=true:=rfl
theorem parts_4 (x0 x1 x2 x3:Operand):partsOk 4 [(0,x0),(1,x1),(2,x2),(3,x3)]=true:=rfl
theorem parts_5 (x0 x1 x2 x3 x4:Operand):partsOk 5 [(0,x0),(1,x1),(2,x2),(3,x3),(4,x4)]=true:=rfl
theorem parts_6 (x0 x1 x2 x3 x4 x5:Operand):partsOk 6 [(0,x0),(1,x1),(2,x2),(3,x3),(4,x4),(5,x5)]=true:=rfl
theorem parts_7 (x0 x1 x2 x3 x4 x5 x6:Operand):partsOk 7 [(0,x0),(1,x1),(2,x2),(3,x3),(4,x4),(5,x5),(6,x6)]=true:=rfl
theorem parts_8 (x0 x1 x2 x3 x4 x5 x6 x7:Operand):partsOk 8 [(0,x0),(1,x1),(2,x2),(3,x3),(4,x4),(5,x5),(6,x6),(7,x7)]=true:=rfl
theorem parts_9 (x0 x1 x2 x3 x4 x5 x6 x7 x8:Operand):partsOk 9 [(0,x0),(1,x1),(2,x2),(3,x3),(4,x4),(5,x5),(6,x6),(7,x7),(8,x8)]=true:=rfl
theorem parts_10 (x0 x1 x2 x3 x4 x5 x6 x7 x8 x9:Operand):partsOk 10 [(0,x0),(1,x1),(2,x2),(3,x3),(4,x4),(5,x5),(6,x6),(7,x7),(8,x8),(9,x9)]=true:=rfl
theorem parts_11 (x0 x1 x2 x3 x4 x5 x6 x7 x8 x9 x10:Operand):partsOk 11 [(0,x0),(1,x1),(2,x2),(3,x3),(4,x4),(5,x5),(6,x6),(7,x7),(8,x8),(9,x9),(10,x10)]=true:=rfl
theorem parts_12 (x0 x1 x2 x3 x4 x5 x6 x7 x8 x9 x10 x11:Operand):partsOk 12 [(0,x0),(1,x1),(2,x2),(3,x3),(4,x4),(5,x5),(6,x6),(7,x7),(8,x8),(9,x9),(10,x10),(11,x11)]=true:=rfl
theorem parts_13 (x0 x1 x2 x3 x4 x5 x6 x7 x8 x9 x10 x11 x12:Operand):partsOk 13 [(0,x0),(1,x1),(2,x2),(3,x3),(4,x4),(5,x5),(6,x6),(7,x7),(8,x8),(9,x9),(10,x10),(11,x11),(12,x12)]=true:=rfl
theorem parts_14 (x0 x1 x2 x3 x4 x5 x6 x7 x8 x9 x10 x11 x12 x13:Operand):partsOk 14 [(0,x0),(1,x1),(2,x2),(3,x3),(4,x4),(5,x5),(6,x6),(7,x7),(8,x8),(9,x9),(10,x10),(11,x11),(12,x12),(13,x13)]=true:=rfl
theorem parts_15 (x0 x1 x2 x3 x4 x5 x6 x7 x8 x9 x10 x11 x12 x13 x14:Operand):partsOk 15 [(0,x0),(1,x1),(2,x2),(3,x3),(4,x4),(5,x5),(6,x6),(7,x7),(8,x8),(9,x9),(10,x10),(11,x11),(12,x12),(13,x13),(14,x14)]=true:=rfl
theorem parts_16 (x0 x1 x2 x3 x4 x5 x6 x7 x8 x9 x10 x11 x12 x13 x14 x15:Operand):partsOk 16 [(0,x0),(1,x1),(2,x2),(3,x3),(4,x4),(5,x5),(6,x6),(7,x7),(8,x8),(9,x9),(10,x10),(11,x11),(12,x12),(13,x13),(14,x14),(15,x15)]=true:=rfl
theorem parts_17 (x0 x1 x2 x3 x4 x5 x6 x7 x8 x9 x10 x11 x12 x13 x14 x15 x16:Operand):partsOk 17 [(0,x0),(1,x1),(2,x2),(3,x3),(4,x4),(5,x5),(6,x6),(7,x7),(8,x8),(9,x9),(10,x10),(11,x11),(12,x12),(13,x13),(14,x14),(15,x15),(16,x16)]=true:=rfl
theorem parts_18 (x0 x1 x2 x3 x4 x5 x6 x7 x8 x9 x10 x11 x12 x13 x14 x15 x16 x17:Operand):partsOk 18 [(0,x0),(1,x1),(2,x2),(3,x3),(4,x4),(5,x5),(6,x6),(7,x7),(8,x8),(9,x9),(10,x10),(11,x11),(12,x12),(13,x13),(14,x14),(15,x15),(16,x16),(17,x17)]=true:=rfl
theorem parts_19 (x0 x1 x2 x3 x4 x5 x6 x7 x8 x9 x10 x11 x12 x13 x14 x15 x16 x17 x18:Operand):partsOk 19 [(0,x0),(1,x1),(2,x2),(3,x3),(4,x4),(5,x5),(6,x6),(7,x7),(8,x8),(9,x9),(10,x10),(11,x11),(12,x12),(13,x13),(14,x14),(15,x15),(16,x16),(17,x17),(18,x18)]=true:=rfl
theorem parts_20 (x0 x1 x2 x3 x4 x5 x6 x7 x8 x9 x10 x11 x12 x13 x14 x15 x16 x17 x18 x19:Operand):partsOk 20 [(0,x0),(1,x1),(2,x2),(3,x3),(4,x4),(5,x5),(6,x6),(7,x7),(8,x8),(9,x9),(10,x10),(11,x11),(12,x12),(13,x13),(14,x14),(15,x15),(16,x16),(17,x17),(18,x18),(19,x19)]=true:=rfl
theorem parts_21 (x0 x1 x2 x3 x4 x5 x6 x7 x8 x9 x10 x11 x12 x13 x14 x15 x16 x17 x18 x19 x20:Operand):partsOk 21 [(0,x0),(1,x1),(2,x2),(3,x3),(4,x4),(5,x5),(6,x6),(7,x7),(8,x8),(9,x9),(10,x10),(11,x11),(12,x12),(13,x13),(14,x14),(15,x15),(16,x16),(17,x17),(18,x18),(19,x19),(20,x20)]=true:=rfl
theorem parts_22 (x0 x1 x2 x3 x4 x5 x6 x7 x8 x9 x10 x11 x12 x13 x14 x15 x16 x17 x18 x19 x20 x21:Operand):partsOk 22 [(0,x0),(1,x1),(2,x2),(3,x3),(4,x4),(5,x5),(6,x6),(7,x7),(8,x8),(9,x9),(10,x10),(11,x11),(12,x12),(13,x13),(14,x14),(15,x15),(16,x16),(17,x17),(18,x18),(19,x19),(20,x20),(21,x21)]=true:=rfl
theorem parts_23 (x0 x1 x2 x3 x4 x5 x6 x7 x8 x9 x10 x11 x12 x13 x14 x15 x16 x17 x18 x19 x20 x21 x22:Operand):partsOk 23 [(0,x0),(1,x1),(2,x2),(3,x3),(4,x4),(5,x5),(6,x6),(7,x7),(8,x8),(9,x9),(10,x10),(11,x11),(12,x12),(13,x13),(14,x14),(15,x15),(16,x16),(17,x17),(18,x18),(19,x19),(20,x20),(21,x21),(22,x22)]=true:=rfl
theorem parts_24 (x0 x1 x2 x3 x4 x5 x6 x7 x8 x9 x10 x11 x12 x13 x14 x15 x16 x17 x18 x19 x20 x21 x22 x23:Operand):partsOk 24 [(0,x0),(1,x1),(2,x2),(3,x3),(4,x4),(5,x5),(6,x6),(7,x7),(8,x8),(9,x9),(10,x10),(11,x11),(12,x12),(13,x13),(14,x14),(15,x15),(16,x16),(17,x17),(18,x18),(19,x19),(20,x20),(21,x21),(22,x22),(23,x23)]=true:=rfl
theorem parts_25 (x0 x1 x2 x3 x4 x5 x6 x7 x8 x9 x10 x11 x12 x13 x14 x15 x16 x17 x18 x19 x20 x21 x22 x23 x24:Operand):partsOk 25 [(0,x0),(1,x1),(2,x2),(3,x3),(4,x4),(5,x5),(6,x6),(7,x7),(8,x8),(9,x9),(10,x10),(11,x11),(12,x12),(13,x13),(14,x14),(15,x15),(16,x16),(17,x17),(18,x18),(19,x19),(20,x20),(21,x21),(22,x22),(23,x23),(24,x24)]=true:=rfl
theorem all_cons {α:Type} {p:α->Prop} {x:α} {l:List α}:(∀y∈x::l,p y)=(p x/\∀y∈l,p y):=by simp
theorem all_nil {α:Type} {p:α->Prop}:(∀y∈([]:List α),p y)=True:=by simp
theorem mem_natC {a b:Nat} {l:List Nat}:(a∈b::l)=(a=b\/a∈l):=by simp
theorem mem_natN {a:Nat}:(a∈([]:List Nat))=False:=by simp
theorem all_ints {l:List Int}:(∀y∈ints l,y.cells.length=1)=True:=eq_true ints_cells
theorem all_rows {l:List (List Int)}:(∀y∈rows l,y.cells.length=1)=True:=eq_true rows_cells
theorem all_app {α:Type} {p:α->Prop} {l r:List α}:(∀y∈l++r,p y)=((∀y∈l,p y)/\∀y∈r,p y):=by
 apply propext;simp only[List.mem_append];constructor
 ·intro h;exact⟨fun y hy=>h y (.inl hy),fun y hy=>h y (.inr hy)⟩
 ·rintro⟨h1,h2⟩ y (hy|hy)
  ·exact h1 y hy
  ·exact h2 y hy
theorem PE_nilT:PE []=True:=eq_true PE_nil
theorem PE_intsT (l:List Int):PE (ints l)=True:=eq_true (PE_ints l)
theorem PE_rowsT (l:List (List Int)):PE (rows l)=True:=eq_true (PE_rows l)
theorem PC_lit (v:Value):PC (.lit v)=True:=rfl
theorem PC_gl (n:Nat):PC (.gl n)=True:=rfl
theorem PC_slF (es:List AV):PC (.sl es false)=True:=eq_true rfl
theorem PE_consT (e:AV) (es:List AV):PE (e::es)=((∀c∈e.cells,PC c)/\PE es):=propext PE_cons
theorem PE_appendT (es fs:List AV):PE (es++fs)=(PE es/\PE fs):=propext PE_append
theorem PE_dropT (es:List AV) (n:Nat) (h:PE es):PE (es.drop n)=True:=eq_true (h.drop n)
theorem PE_takeT (es:List AV) (n:Nat) (h:PE es):PE (es.take n)=True:=eq_true (h.take n)
theorem ints_set {l:List Int} {j:Nat} {v:Int}:(ints l).set j (.lit (.int .i64 v))=ints (l.set j v):=by simp[ints,List.map_set,I]
theorem ints_snoc {l:List Int} {v:Int}:ints l++[.lit (.int .i64 v)]=ints (l++[v]):=by simp[ints]
theorem ints_drop {l:List Int} {n:Nat}:(ints l).drop n=ints (l.drop n):=by simp[ints]
theorem ints_take {l:List Int} {n:Nat}:(ints l).take n=ints (l.take n):=by simp[ints]
theorem rows_snoc {l:List (List Int)} {v:List Int}:rows l++[.sl (ints v) false]=rows (l++[v]):=by simp[rows]
section
variable {C:Cx} {T:Tab} {s:St} {r:AV}
theorem awp_region_drawR {id:Nat} {l:List Oper} {Q:Exit->St->Prop} (hC:COk C T) (hm:C.P.follows .mixedOrders=true)
  (hs:slotOk l=true) (hd:(l.all fun o=>decide (o.dst.getD 0<C.N))=true)
  (h:∀K:St->Prop,(∀s',Q .normal s'->K s')->awpDr C.P T l l s [] (fun s' rs=>conf (masks l []) rs=true/\K s')):awp C (.region id l.toArray true) Q s:=
 awp_region_draw hC hm hs hd h
theorem condT {c:Operand} {x y:Code} {Q:Exit->St->Prop} (hc:s.ev c= .lit (.bool true)) (ht:awp C x Q s):awp C (.cond c x y) Q s:=
 awp_cond true hc (fun _=>ht) (fun h=>by cases h)
theorem condF {c:Operand} {x y:Code} {Q:Exit->St->Prop} (hc:s.ev c= .lit (.bool false)) (ht:awp C y Q s):awp C (.cond c x y) Q s:=
 awp_cond false hc (fun h=>by cases h) (fun _=>ht)
theorem nm_nil:NmOk []:=⟨List.nodup_nil,List.nodup_nil⟩
theorem ret1 {a:Nat} (h1:rntP true [] s.hp (tget s.tm a)) (h2:rnt true [] s.hp (tget s.tm a)=r):∃σ D,RetG T [.tmp a] σ D [] r s:=
 ⟨[],_,trivial,nm_nil,nofun,trivial,nofun,h1,fun _ h=>h,fun _ _=>rfl,h2,rfl⟩
theorem retN {rs:List ResultVar} (h0:(retAV T s rs).1) (h1:rntP true [] s.hp (retAV T s rs).2) (h2:rnt true [] s.hp (retAV T s rs).2=r):∃σ D,RetG T rs σ D [] r s:=
 ⟨[],_,h0,nm_nil,nofun,trivial,nofun,h1,fun _ h=>h,fun _ _=>rfl,h2,rfl⟩
theorem retG {rs:List ResultVar} {hp':Hp} (σ:Nm) (h0:(retAV T s rs).1) (hn1:(σ.map (·.1)).Nodup) (hn2:(σ.map (·.2.2.1)).Nodup) (hg:∀q∈σ,(q.2.1=0/\q.2.2.1=q.1/\q.2.2.2=0)\/q.2.1=1)
  (hP:rnHP true σ s.hp σ) (h1:rntP true σ s.hp (retAV T s rs).2) (hd:∀d∈rnHR true σ s.hp σ++rntR true σ s.hp (retAV T s rs).2,lk σ d=none)
  (h2:rnt true σ s.hp (retAV T s rs).2=r) (h3:rnH true σ s.hp=hp'):∃σ D,RetG T rs σ D hp' r s:=
 ⟨σ,_,h0,⟨hn1,hn2⟩,hg,hP,fun _ h=>List.mem_append_left _ h,h1,fun _ h=>List.mem_append_right _ h,hd,h2,h3⟩
section
variable {P:Program} {f:FuncId} {g:Nat} {hp:Hp} {vs:List AV} {rc:AV} {K:AV->List Up->List Nat->Prop}
def ShP (τ:Nm) (hp:Hp):List AV->Prop
 |[]=>True
 |v::vs=>rntP true τ hp v/\ShP τ hp vs
theorem ShP.all {τ:Nm} {hp:Hp}:∀{vs:List AV},ShP τ hp vs->∀v∈vs,rntP true τ hp v
 |[],_,v,hv=>by cases hv
 |u::us,h,v,hv=>by
  rcases List.mem_cons.1 hv with rfl|hv
  ·exact h.1
  ·exact ShP.all h.2 v hv
theorem callG (τ σ:Nm) (keep:Bool) {hp1:Hp} (hn1:(τ.map (·.1)).Nodup) (hn2:(τ.map (·.2.2.1)).Nodup) (hg:∀q∈τ,q.2.1=0) (hP:rnHP true τ hp τ) (hs:ShP τ hp vs)
  (hd:∀d∈rnHR true τ hp τ++vs.flatMap (rntR true τ hp),lk τ d=none) (h:SatG P T f (rnH true τ hp) (vs.map (rnt true τ hp)) hp1 rc)
  (hm1:(σ.map (·.1)).Nodup) (hm2:(σ.map (·.2.2.1)).Nodup) (hgs:∀q∈σ,(q.2.2.2=0/\(q.2.2.1,0,q.1,q.2.1)∈τ)\/(q.2.2.2=1/\q.2.1=g))
  (hbP:rnHP false σ hp1 σ) (hbR:rnHR false σ hp1 σ=[]) (hrP:rntP false σ hp1 rc) (hrR:rntR false σ hp1 rc=[])
  (ht1:trH keep (touched τ σ (rnHR true τ hp τ++vs.flatMap (rntR true τ hp)) keep) (rnH false σ hp1)) (ht2:trt keep (touched τ σ (rnHR true τ hp τ++vs.flatMap (rntR true τ hp)) keep) (rnt false σ hp1 rc))
  (hK:K (rnt false σ hp1 rc) (rnH false σ hp1++drops ((touched τ σ (rnHR true τ hp τ++vs.flatMap (rntR true τ hp)) keep).filter fun i=>!(σ.map (·.1)).contains i)) (τ.map (·.2.2.1)++(rnHR true τ hp τ++vs.flatMap (rntR true τ hp)))):CallK P T f g hp vs K:=
 ⟨τ,σ,_,keep,hp1,rc,⟨⟨hn1,hn2⟩,hg,hP,fun _ h=>List.mem_append_left _ h,hs.all,fun v hv d hd=>List.mem_append_right _ (List.mem_flatMap.2 ⟨v,hv,hd⟩),hd,h,⟨hm1,hm2⟩,hgs,hbP,
  fun d hd=>(by rw[hbR] at hd;cases hd),hrP,fun d hd=>(by rw[hrR] at hd;cases hd),ht1,ht2⟩,hK⟩
theorem callF (hs:ShP [] hp vs) (h:SatG P T f [] (vs.map (rnt true [] hp)) [] rc) (hrP:rntP false [] [] rc) (hrR:rntR false [] [] rc=[]) (ht:trt true [] (rnt false [] [] rc))
  (hK:K (rnt false [] [] rc) [] (vs.flatMap (rntR true [] hp))):CallK P T f g hp vs K:=
 callG [] [] true List.nodup_nil List.nodup_nil nofun trivial hs (fun _ _=>rfl) h List.nodup_nil List.nodup_nil nofun trivial rfl hrP hrR trivial ht hK
theorem filter_all (l:List Nat):(l.filter fun i=>!([]:List Nat).contains i)=l:=by simp
theorem callP (hs:ShP [] hp vs) (h:SatG P T f [] (vs.map (rnt true [] hp)) [] rc) (hrP:rntP false [] [] rc) (hrR:rntR false [] [] rc=[]) (ht:trt false (vs.flatMap (rntR true [] hp)) (rnt false [] [] rc))
  (hK:K (rnt false [] [] rc) (drops (vs.flatMap (rntR true [] hp))) (vs.flatMap (rntR true [] hp))):CallK P T f g hp vs K:=
 callG [] [] false List.nodup_nil List.nodup_nil nofun trivial hs (fun _ _=>rfl) h List.nodup_nil List.nodup_nil nofun trivial rfl hrP hrR trivial ht (by
  have e1:(touched [] [] (rnHR true [] hp []++vs.flatMap (rntR true [] hp)) false).filter (fun i=>!(([]:Nm).map (·.1)).contains i)=vs.flatMap (rntR true [] hp):=filter_all _
  rw[e1]
  exact hK)
theorem callL {id ga:Nat} {cs cs':List AV} (hg:hp.get id=some (ga, .box cs))
  (h:SatG P T f [(0,some (0, .box (cs.map (rnB true [(0,0,id,ga)] hp))))] (.ptO 0 0 0 0 0::vs.map (rnt true [(0,0,id,ga)] hp)) [(0,some (0, .box cs'))] rc)
  (hs:(∀c∈cs,rnBP true [(0,0,id,ga)] hp c)/\ShP [(0,0,id,ga)] hp vs)
  (hd:∀d∈cs.flatMap (rnBR true [(0,0,id,ga)] hp)++vs.flatMap (rntR true [(0,0,id,ga)] hp),id≠d)
  (hb:(∀c∈cs',rnBP false [(id,ga,0,0)] [(0,some (0, .box cs'))] c)/\rntP false [(id,ga,0,0)] [(0,some (0, .box cs'))] rc)
  (hr:cs'.flatMap (rnBR false [(id,ga,0,0)] [(0,some (0, .box cs'))])=[]/\rntR false [(id,ga,0,0)] [(0,some (0, .box cs'))] rc=[])
  (ht:(∀c∈cs'.map (rnB false [(id,ga,0,0)] [(0,some (0, .box cs'))]),trA false [id] c)/\trt false [id] (rnt false [(id,ga,0,0)] [(0,some (0, .box cs'))] rc))
  (hK:K (rnt false [(id,ga,0,0)] [(0,some (0, .box cs'))] rc) ((id,some (ga, .box (cs'.map (rnB false [(id,ga,0,0)] [(0,some (0, .box cs'))]))))::drops (cs.flatMap (rnBR true [(0,0,id,ga)] hp)++vs.flatMap (rntR true [(0,0,id,ga)] hp)))
   (id::(cs.flatMap (rnBR true [(0,0,id,ga)] hp)++vs.flatMap (rntR true [(0,0,id,ga)] hp)))):CallK P T f g hp (.ptO id ga 0 0 0::vs) K:=by
 have e1:rnHR true [(0,0,id,ga)] hp [(0,0,id,ga)]=cs.flatMap (rnBR true [(0,0,id,ga)] hp):=by simp only[rnHR,hg,rnOR,List.append_nil]
 have e2:rntR true [(0,0,id,ga)] hp (.ptO id ga 0 0 0)=[]:=by simp[rntR,rnvR,AV.cells,rnBR,rnAR,lk]
 have e3:rnt true [(0,0,id,ga)] hp (.ptO id ga 0 0 0)= .ptO 0 0 0 0 0:=by simp[rnt,rnv,mapc,rnB,rnA,lk]
 have e4:rnH true [(0,0,id,ga)] hp=[(0,some (0, .box (cs.map (rnB true [(0,0,id,ga)] hp))))]:=by simp[rnH,hg,rnO]
 have e5:rnH false [(id,ga,0,0)] [(0,some (0, .box cs'))]=[(id,some (ga, .box (cs'.map (rnB false [(id,ga,0,0)] [(0,some (0, .box cs'))]))))]:=by simp[rnH,Hp.get,rnO]
 have e6:rnHR false [(id,ga,0,0)] [(0,some (0, .box cs'))] [(id,ga,0,0)]=[]:=by simp only[rnHR,Hp.get,if_true,rnOR,hr.1,List.append_nil]
 generalize hD:cs.flatMap (rnBR true [(0,0,id,ga)] hp)++vs.flatMap (rntR true [(0,0,id,ga)] hp)=D at hd hK
 have e7:rnHR true [(0,0,id,ga)] hp [(0,0,id,ga)]++(AV.ptO id ga 0 0 0::vs).flatMap (rntR true [(0,0,id,ga)] hp)=D:=by rw[List.flatMap_cons,e1,e2,List.nil_append,hD]
 have e8:(touched [(0,0,id,ga)] [(id,ga,0,0)] D false).filter (fun i=>!(([(id,ga,0,0)]:Nm).map (·.1)).contains i)=D:=by
  simp only[touched,List.map_cons,List.map_nil,Bool.false_eq_true,if_false,List.cons_append,List.nil_append]
  have h1:∀d∈D,(!([id]:List Nat).contains d)=true:=fun d hd'=>by
   have:=hd d hd'
   simp[Ne.symm this]
  simp only[List.filter_cons]
  rw[List.filter_eq_self.2 h1]
  simp
 have tmono:∀c,trA false [id] c->trA false (touched [(0,0,id,ga)] [(id,ga,0,0)] D false) c:=by
  have hm:∀x,x∈[id]->x∈touched [(0,0,id,ga)] [(id,ga,0,0)] D false:=fun x hx=>by
   simp only[List.mem_singleton] at hx;subst hx;simp[touched]
  intro c h
  cases c with
  |slO=>exact hm _ h
  |ptO=>exact hm _ h
  |fn f cs=>
   refine⟨rfl,fun c hc=>?_⟩
   have:=h.2 c hc
   cases c with
   |slO=>exact hm _ this
   |ptO=>exact hm _ this
   |_=>exact this
  |_=>exact h
 refine callG [(0,0,id,ga)] [(id,ga,0,0)] false (hp1:=[(0,some (0, .box cs'))]) (by simp) (by simp) (by simp) ?_ ?_ ?_ ?_ (by simp) (by simp) (by simp) ?_ e6 hb.2 hr.2 ?_ ?_ ?_
 ·simp only[rnHP,hg,rnOP,and_true,true_and];exact hs.1
 ·refine⟨?_,hs.2⟩
  simp[rntP,rnvP,AV.cells,rnBP,rnAP,lk]
 ·rw[e7]
  intro d hd'
  simp only[lk,if_neg (hd d hd')]
 ·rw[e4,List.map_cons,e3];exact h
 ·simp only[rnHP,Hp.get,if_true,rnOP,and_true,true_and];exact hb.1
 ·rw[e7,e5]
  refine⟨fun c hc=>tmono c (ht.1 c hc),trivial⟩
 ·rw[e7]
  have h2:=ht.2
  generalize rnt false [(id,ga,0,0)] [(0,some (0,Ob.box cs'))] rc=v at h2
  cases v with
  |tup vs=>exact fun u hu c hc=>tmono c (h2 u hu c hc)
  |_=>exact fun c hc=>tmono c (h2 c hc)
 ·rw[e7,e5,e8];exact hK
theorem retB1 {a:Nat} {cs cs':List AV} (hg:s.hp.get 0=some (0, .box cs)) (h1:(∀c∈cs,rnBP true [(0,0,0,0)] s.hp c)/\rntP true [(0,0,0,0)] s.hp (tget s.tm a))
  (hd:∀d∈cs.flatMap (rnBR true [(0,0,0,0)] s.hp)++rntR true [(0,0,0,0)] s.hp (tget s.tm a),0≠d) (h2:rnt true [(0,0,0,0)] s.hp (tget s.tm a)=r) (h3:cs.map (rnB true [(0,0,0,0)] s.hp)=cs'):
  ∃σ D,RetG T [.tmp a] σ D [(0,some (0, .box cs'))] r s:=by
 have e1:rnHR true [(0,0,0,0)] s.hp [(0,0,0,0)]=cs.flatMap (rnBR true [(0,0,0,0)] s.hp):=by simp only[rnHR,hg,rnOR,List.append_nil]
 have e4:rnH true [(0,0,0,0)] s.hp=[(0,some (0, .box (cs.map (rnB true [(0,0,0,0)] s.hp))))]:=by simp[rnH,hg,rnO]
 refine retG [(0,0,0,0)] trivial (by simp) (by simp) (by simp) ?_ h1.2 ?_ h2 (by rw[e4,h3])
 ·simp only[rnHP,hg,rnOP,and_true,true_and];exact h1.1
 ·rw[e1]
  intro d hd'
  have:=hd d hd'
  simp only[lk,if_neg this]
end
end
attribute [go_sem] cells_lit cells_sl cells_kid cells_ptI cells_gl cells_bad cells_slO cells_ptO cells_fn cells_agg cells_tup cells_mpO one_lit noKid_lit one_sl noKid_sl one_kid noKid_kid one_ptI noKid_ptI one_gl noKid_gl one_bad noKid_bad one_slO noKid_slO one_ptO noKid_ptO one_fn noKid_fn one_agg noKid_agg one_tup noKid_tup one_mpO noKid_mpO mapc_lit mapc_sl mapc_kid mapc_ptI mapc_gl mapc_bad mapc_slO mapc_ptO mapc_fn mapc_agg mapc_tup mapc_mpO fz0_lit fzP0_lit fzR0_lit fz0_sl fzP0_sl fzR0_sl fz0_kid fzP0_kid fzR0_kid fz0_ptI fzP0_ptI fzR0_ptI fz0_gl fzP0_gl fzR0_gl fz0_bad fzP0_bad fzR0_bad fz0_slO fzP0_slO fzR0_slO fz0_ptO fzP0_ptO fzR0_ptO fz0_fn fzP0_fn fzR0_fn fz0_agg fzP0_agg fzR0_agg fz0_tup fzP0_tup fzR0_tup fz0_mpO fzP0_mpO fzR0_mpO fz1_lit fzP1_lit fzR1_lit fz1_sl fzP1_sl fzR1_sl fz1_kid fzP1_kid fzR1_kid fz1_ptI fzP1_ptI fzR1_ptI fz1_gl fzP1_gl fzR1_gl fz1_bad fzP1_bad fzR1_bad fz1_slO fzP1_slO fzR1_slO fz1_ptO fzP1_ptO fzR1_ptO fz1_fn fzP1_fn fzR1_fn fz1_agg fzP1_agg fzR1_agg fz1_tup fzP1_tup fzR1_tup fz1_mpO fzP1_mpO fzR1_mpO fz2_lit fzP2_lit fzR2_lit fz2_sl fzP2_sl fzR2_sl fz2_kid fzP2_kid fzR2_kid fz2_ptI fzP2_ptI fzR2_ptI fz2_gl fzP2_gl fzR2_gl fz2_bad fzP2_bad fzR2_bad fz2_slO fzP2_slO fzR2_slO fz2_ptO fzP2_ptO fzR2_ptO fz2_fn fzP2_fn fzR2_fn fz2_agg fzP2_agg fzR2_agg fz2_tup fzP2_tup fzR2_tup fz2_mpO fzP2_mpO fzR2_mpO fz3_lit fzP3_lit fzR3_lit fz3_sl fzP3_sl fzR3_sl fz3_kid fzP3_kid fzR3_kid fz3_ptI fzP3_ptI fzR3_ptI fz3_gl fzP3_gl fzR3_gl fz3_bad fzP3_bad fzR3_bad fz3_slO fzP3_slO fzR3_slO fz3_ptO fzP3_ptO fzR3_ptO fz3_fn fzP3_fn fzR3_fn fz3_agg fzP3_agg fzR3_agg fz3_tup fzP3_tup fzR3_tup fz3_mpO fzP3_mpO fzR3_mpO fz4_lit fzP4_lit fzR4_lit fz4_sl fzP4_sl fzR4_sl fz4_kid fzP4_kid fzR4_kid fz4_ptI fzP4_ptI fzR4_ptI fz4_gl fzP4_gl fzR4_gl fz4_bad fzP4_bad fzR4_bad fz4_slO fzP4_slO fzR4_slO fz4_ptO fzP4_ptO fzR4_ptO fz4_fn fzP4_fn fzR4_fn fz4_agg fzP4_agg fzR4_agg fz4_tup fzP4_tup fzR4_tup fz4_mpO fzP4_mpO fzR4_mpO fzk_lit fzkP_lit fzkR_lit fzk_sl fzkP_sl fzkR_sl fzk_kid fzkP_kid fzkR_kid fzk_ptI fzkP_ptI fzkR_ptI fzk_gl fzkP_gl fzkR_gl fzk_bad fzkP_bad fzkR_bad fzk_slO fzkP_slO fzkR_slO fzk_ptO fzkP_ptO fzkR_ptO fzk_fn fzkP_fn fzkR_fn fzk_agg fzkP_agg fzkR_agg fzk_tup fzkP_tup fzkR_tup fzk_mpO fzkP_mpO fzkR_mpO fzt_lit fztP_lit fztR_lit fzt_sl fztP_sl fztR_sl fzt_kid fztP_kid fztR_kid fzt_ptI fztP_ptI fztR_ptI fzt_gl fztP_gl fztR_gl fzt_bad fztP_bad fztR_bad fzt_slO fztP_slO fztR_slO fzt_ptO fztP_ptO fztR_ptO fzt_fn fztP_fn fztR_fn fzt_agg fztP_agg fztR_agg fzt_tup fztP_tup fztR_tup fzt_mpO fztP_mpO fztR_mpO att_lit attP_lit attR_lit att_sl attP_sl attR_sl att_kid attP_kid attR_kid att_ptI attP_ptI attR_ptI att_gl attP_gl attR_gl att_bad attP_bad attR_bad att_slO attP_slO attR_slO att_ptO attP_ptO attR_ptO att_fn attP_fn attR_fn att_agg attP_agg attR_agg att_tup attP_tup attR_tup att_mpO attP_mpO attR_mpO srcE_lit srcP_lit srcR_lit srcE_sl srcP_sl srcR_sl srcE_kid srcP_kid srcR_kid srcE_ptI srcP_ptI srcR_ptI srcE_gl srcP_gl srcR_gl srcE_bad srcP_bad srcR_bad srcE_slO srcP_slO srcR_slO srcE_ptO srcP_ptO srcR_ptO srcE_fn srcP_fn srcR_fn srcE_agg srcP_agg srcR_agg srcE_tup srcP_tup srcR_tup srcE_mpO srcP_mpO srcR_mpO ids3_lit ids2_lit ids1_lit ids0_lit ids3_sl ids2_sl ids1_sl ids0_sl ids3_kid ids2_kid ids1_kid ids0_kid ids3_ptI ids2_ptI ids1_ptI ids0_ptI ids3_gl ids2_gl ids1_gl ids0_gl ids3_bad ids2_bad ids1_bad ids0_bad ids3_slO ids2_slO ids1_slO ids0_slO ids3_ptO ids2_ptO ids1_ptO ids0_ptO ids3_fn ids2_fn ids1_fn ids3_agg ids2_agg ids3_tup ids3_mpO ids2_mpO ids1_mpO ids0_mpO rnAT_lit rnAPT_lit rnART_lit rnBT_lit rnBPT_lit rnBRT_lit rnKT_lit rnKPT_lit rnKRT_lit rntT_lit rntPT_lit rntRT_lit rnAT_sl rnAPT_sl rnART_sl rnBT_sl rnBPT_sl rnBRT_sl rnKT_sl rnKPT_sl rnKRT_sl rntT_sl rntPT_sl rntRT_sl rnAT_kid rnAPT_kid rnART_kid rnBT_kid rnBPT_kid rnBRT_kid rnKT_kid rnKPT_kid rnKRT_kid rntT_kid rntPT_kid rntRT_kid rnAT_ptI rnAPT_ptI rnART_ptI rnBT_ptI rnBPT_ptI rnBRT_ptI rnKT_ptI rnKPT_ptI rnKRT_ptI rntT_ptI rntPT_ptI rntRT_ptI rnAT_gl rnAPT_gl rnART_gl rnBT_gl rnBPT_gl rnBRT_gl rnKT_gl rnKPT_gl rnKRT_gl rntT_gl rntPT_gl rntRT_gl rnAT_bad rnAPT_bad rnART_bad rnBT_bad rnBPT_bad rnBRT_bad rnKT_bad rnKPT_bad rnKRT_bad rntT_bad rntPT_bad rntRT_bad rnAT_slO rnAPT_slO rnART_slO rnBT_slO rnBPT_slO rnBRT_slO rnKT_slO rnKPT_slO rnKRT_slO rntT_slO rntPT_slO rntRT_slO rnAT_ptO rnAPT_ptO rnART_ptO rnBT_ptO rnBPT_ptO rnBRT_ptO rnKT_ptO rnKPT_ptO rnKRT_ptO rntT_ptO rntPT_ptO rntRT_ptO rnAT_fn rnAPT_fn rnART_fn rnBT_fn rnBPT_fn rnBRT_fn rnKT_fn rnKPT_fn rnKRT_fn rntT_fn rntPT_fn rntRT_fn rnAT_agg rnAPT_agg rnART_agg rnBT_agg rnBPT_agg rnBRT_agg rnKT_agg rnKPT_agg rnKRT_agg rntT_agg rntPT_agg rntRT_agg rnAT_tup rnAPT_tup rnART_tup rnBT_tup rnBPT_tup rnBRT_tup rnKT_tup rnKPT_tup rnKRT_tup rntT_tup rntPT_tup rntRT_tup rnAT_mpO rnAPT_mpO rnART_mpO rnBT_mpO rnBPT_mpO rnBRT_mpO rnKT_mpO rnKPT_mpO rnKRT_mpO rntT_mpO rntPT_mpO rntRT_mpO rnAF_lit rnAPF_lit rnARF_lit rnBF_lit rnBPF_lit rnBRF_lit rnKF_lit rnKPF_lit rnKRF_lit rntF_lit rntPF_lit rntRF_lit rnAF_sl rnAPF_sl rnARF_sl rnBF_sl rnBPF_sl rnBRF_sl rnKF_sl rnKPF_sl rnKRF_sl rntF_sl rntPF_sl rntRF_sl rnAF_kid rnAPF_kid rnARF_kid rnBF_kid rnBPF_kid rnBRF_kid rnKF_kid rnKPF_kid rnKRF_kid rntF_kid rntPF_kid rntRF_kid rnAF_ptI rnAPF_ptI rnARF_ptI rnBF_ptI rnBPF_ptI rnBRF_ptI rnKF_ptI rnKPF_ptI rnKRF_ptI rntF_ptI rntPF_ptI rntRF_ptI rnAF_gl rnAPF_gl rnARF_gl rnBF_gl rnBPF_gl rnBRF_gl rnKF_gl rnKPF_gl rnKRF_gl rntF_gl rntPF_gl rntRF_gl rnAF_bad rnAPF_bad rnARF_bad rnBF_bad rnBPF_bad rnBRF_bad rnKF_bad rnKPF_bad rnKRF_bad rntF_bad rntPF_bad rntRF_bad rnAF_slO rnAPF_slO rnARF_slO rnBF_slO rnBPF_slO rnBRF_slO rnKF_slO rnKPF_slO rnKRF_slO rntF_slO rntPF_slO rntRF_slO rnAF_ptO rnAPF_ptO rnARF_ptO rnBF_ptO rnBPF_ptO rnBRF_ptO rnKF_ptO rnKPF_ptO rnKRF_ptO rntF_ptO rntPF_ptO rntRF_ptO rnAF_fn rnAPF_fn rnARF_fn rnBF_fn rnBPF_fn rnBRF_fn rnKF_fn rnKPF_fn rnKRF_fn rntF_fn rntPF_fn rntRF_fn rnAF_agg rnAPF_agg rnARF_agg rnBF_agg rnBPF_agg rnBRF_agg rnKF_agg rnKPF_agg rnKRF_agg rntF_agg rntPF_agg rntRF_agg rnAF_tup rnAPF_tup rnARF_tup rnBF_tup rnBPF_tup rnBRF_tup rnKF_tup rnKPF_tup rnKRF_tup rntF_tup rntPF_tup rntRF_tup rnAF_mpO rnAPF_mpO rnARF_mpO rnBF_mpO rnBPF_mpO rnBRF_mpO rnKF_mpO rnKPF_mpO rnKRF_mpO rntF_mpO rntPF_mpO rntRF_mpO trT_lit trtT_lit trT_sl trtT_sl trT_kid trtT_kid trT_ptI trtT_ptI trT_gl trtT_gl trT_bad trtT_bad trT_slO trtT_slO trT_ptO trtT_ptO trT_fn trtT_fn trT_agg trtT_agg trT_tup trtT_tup trT_mpO trtT_mpO trF_lit trtF_lit trF_sl trtF_sl trF_kid trtF_kid trF_ptI trtF_ptI trF_gl trtF_gl trF_bad trtF_bad trF_slO trtF_slO trF_ptO trtF_ptO trF_fn trtF_fn trF_agg trtF_agg trF_tup trtF_tup trF_mpO trtF_mpO rnO_own rnO_box rnOP_own rnOP_box rnOR_own rnOR_box trO_own trO_box trH_nil trH_some trH_none rnH_def isNil_tmp isNil_int isNil_bool isNil_string isNil_nil bopB_f bopB_eql bopB_neq glob_gl glob_lit glob_sl glob_kid glob_ptI glob_bad glob_slO glob_ptO glob_fn glob_agg glob_tup glob_mpO setc_lit setc_sl setc_kid setc_ptI setc_gl setc_bad setc_slO setc_ptO setc_fn setc_agg setc_tup setc_mpO pe_fz0 pe_fzP0 pe_fzR0 pe_fz1 pe_fzP1 pe_fzR1 pe_fz2 pe_fzP2 pe_fzR2 pe_fz3 pe_fzP3 pe_fzR3 pe_fz4 pe_fzP4 pe_fzR4 pe_fzk pe_att pe_attP pe_esR pe_rnKT pe_rnKPT pe_rnKRT pe_rnKF pe_rnKPF pe_rnKRF pe_tr esR_nil esR_cons isLit_lit lits_ints trT_ints parts_0 parts_1 parts_2 parts_3 parts_4 parts_5 parts_6 parts_7 parts_8 parts_9 parts_10 parts_11 parts_12 parts_13 parts_14 parts_15 parts_16 parts_17 parts_18 parts_19 parts_20 parts_21 parts_22 parts_23 parts_24 parts_25 mem_natC mem_natN forall_eq_or_imp forall_eq all_ints all_rows all_app PE_nilT PE_intsT PE_rowsT PC_lit PC_gl PC_slF PE_consT PE_appendT PE_dropT PE_takeT ints_set ints_snoc rows_snoc
attribute [go_sem ↓] all_cons all_nil
attribute [go_sem] all_cons all_nil
open Go
attribute [go_sem] opLoadB TI.zav ZC.val GO_tt GO_tf GO_ft GO_ff GO_tup GOD_tt GOD_tf GOD_ft GOD_ff GOD_tup finO_mk finOD_mk K_move K_pick K_binOp K_makeMap K_lookup K_mapUpdate D_makeMap D_lookup D_mapUpdate opLookup opMapUpd K_not K_neg K_nilCheck K_extract K_load K_store K_indexAddr K_fieldAddr K_field K_index K_slice K_makeFunc K_makeSlice K_buildSlice K_alloc K_box K_build K_convert K_len K_append K_copy K_clear K_min K_max D_move D_pick D_binOp D_not D_neg D_nilCheck D_extract D_load D_store D_indexAddr D_fieldAddr D_field D_index D_slice D_makeFunc D_makeSlice D_buildSlice D_alloc D_box D_build D_convert D_len D_append D_copy D_clear D_min D_max K_assignV D_assignV K_assignF K_assignC D_assignC K_call K_callV CallVO_fn D_call D_callV CallVOD_fn ev_global put_some put_none ev_tmp ev_const ev_func ofV_int ofV_bool ofV_str ofV_nil ofV_ptr ops_nil ops_cons ops_guard opsD_nil opsD_cons opsD_guard finO_mk finOD_mk gv_some GO_tt GO_tf GO_ft GO_ff GO_tup GOD_tt GOD_tf GOD_ft GOD_ff GOD_tup drops gv_some R.val tget Value.oneCell' bop bopInt bopShift bopBool bopStr bopAgg eqCs eqC arith opLen opIndexAddr opLoad ldCells opFieldAddr opField opIndex Sym.elemOf opSlice opSliceS opSliceStr opStore opAppend opCopy opClear Hp.get Hp.has lk bw glu stc dstOf QThen QBlock Option.map_some Option.map_none Option.getD_some Option.getD_none Option.bind_some List.getElem?_cons_zero List.getElem?_cons_succ List.length_cons List.length_nil List.length_map List.getD_cons_zero List.getD_cons_succ List.map_cons List.map_nil List.flatMap_cons List.flatMap_nil List.append_nil List.nil_append List.singleton_append List.cons_append Nat.le_refl if_true if_false true_and and_true Bool.false_eq_true not_false_eq_true not_true_eq_false eq_self ints_length rows_length Int.toNat_natCast evs List.take_succ_cons List.take_zero List.drop_zero List.drop_succ_cons List.drop_nil Nat.add_zero Nat.zero_add decide_true decide_false Bool.not_true Bool.not_false List.length_range List.length_set List.length_append List.length_replicate List.foldl_cons List.foldl_nil ZC.av splice List.set_cons_zero List.set_cons_succ ShP
open Go Go.Great
theorem opKD_of {P:Program} {T:Tab} {o:Oper} {s:St} {K:St->Prop} {K':AV->List Up->List Nat->Prop} (h:opK P T o s K) (hK:∀v ups acc,K (s.put o.dst v ups)->K' v ups acc):opKD P T o s K':=by
 unfold opK at h
 unfold opKD
 split at h
 ·rename_i f args at_ heq
  first|(rw[heq];simp only)|skip
  split at h
  ·rename_i fid caps hf
   obtain⟨τ,σ,D,keep,hp1,rc,h1,h2⟩:=h
   first|rw[hf]|skip
   exact⟨τ,σ,D,keep,hp1,rc,by simpa[evs] using h1,hK _ _ _ h2⟩
  ·exact h.elim
 ·rename_i hne
  first
  |exact⟨h.1,hK _ _ _ h.2⟩
  |(split
    ·rename_i f args at_ heq
     exact(hne _ _ _ heq).elim
    ·exact⟨h.1,hK _ _ _ h.2⟩)
def tot:List Rec->Nat
 |[]=>0
 |r::rs=>r.1.length+tot rs
theorem tot_zero:∀{rs:List Rec},tot rs=0->rs.all (fun r=>r.1.isEmpty)=true
 |[],_=>rfl
 |r::rs,h=>by
  simp only[tot] at h
  rw[List.all_cons,tot_zero (by omega)]
  simp[show r.1=[] from List.length_eq_zero_iff.1 (by omega)]
theorem put_len (s:St) (d:Option Nat) (v:AV) (ups:List Up):(s.put d v ups).hp.length=ups.length+s.hp.length:=by simp[St.put]
theorem awpD_of_ops {P:Program} {T:Tab} {all:List Oper} {K:St->Prop}:∀(rest:List Oper) (s:St) (K':St->List Rec->Prop),awpOps P T all rest s K->
  (∀s' rs,s'.hp.length=s.hp.length+tot rs->K s'->K' s' rs)->awpD P T all rest s K'
 |[],s,K',h,hK=>hK s [] rfl h
 |o::rest,s,K',h,hK=>by
  unfold awpOps at h
  unfold awpD
  have step:∀v ups (acc:List Nat),awpOps P T all rest (s.put o.dst v ups) K->awpD P T all rest (s.put o.dst v ups) fun s' rs=>K' s' ((ups.map (·.1),acc)::rs):=fun v ups acc h'=>
   awpD_of_ops rest _ _ h' fun s' rs h1 h2=>hK s' _ (by rw[h1,put_len];simp[tot];omega) h2
  cases hg:o.guard with
  |none=>
   rw[hg] at h
   exact opKD_of h step
  |some q=>
   obtain⟨j,want⟩:=q
   rw[hg] at h
   simp only[GM] at h ⊢
   split at h
   ·rename_i b heq
    exact⟨fun hb=>opKD_of (h.1 hb) step,fun hb=>awpD_of_ops rest _ _ (h.2 hb) fun s' rs h1 h2=>hK s' _ (by rw[h1,put_len];simp[tot]) h2⟩
   ·rename_i heq
    exact awpD_of_ops rest _ _ h fun s' rs h1 h2=>hK s' _ (by rw[h1,put_len];simp[tot]) h2
   ·exact h.elim
theorem awp_region_still {C:Cx} {T:Tab} {id:Nat} {l:List Oper} {Q:Exit->St->Prop} {s:St} (hC:COk C T) (hm:C.P.follows .mixedOrders=true)
  (hs:slotOk l=true) (hd:(l.all fun o=>decide (o.dst.getD 0<C.N))=true)
  (h:∀K:St->Prop,(∀s',Q .normal s'->K s')->awpOps C.P T l l s (fun s'=>s'.hp.length=s.hp.length/\K s')):awp C (.region id l.toArray true) Q s:=
 awp_region_draw hC hm hs hd fun K hK=>awpD_of_ops l s _ (h K hK) fun s' rs h1 ⟨h2,h3⟩=>⟨by
  unfold conf
  rw[tot_zero (by omega),Bool.true_or],h3⟩
open Go
theorem awp_merge {C:Cx} {ι:Type} {c d:Code} {Q:Exit->St->Prop} {s:St} (inv:ι->St) (ok:ι->Prop)
  (h1:awp C c (QThen (fun s'=>∃i,ok i/\Weak s' (inv i)) Q) s) (h2:∀i,ok i->awp C d Q (inv i)):awp C c (QThen (awp C d Q) Q) s:=by
 refine awp_mono h1 fun e s' h=>?_
 cases e with
 |normal=>obtain⟨i,hi,hw⟩:=h;exact awp_weak hw (h2 i hi)
 |_=>exact h
open Go
section
variable {T:Tab} {s:St} {r:AV}
theorem retBs {rs:List ResultVar} {cs cs':List AV} (h0:(retAV T s rs).1) (hg:s.hp.get 0=some (0, .box cs)) (h1:(∀c∈cs,rnBP true [(0,0,0,0)] s.hp c)/\rntP true [(0,0,0,0)] s.hp (retAV T s rs).2)
  (hd:∀d∈cs.flatMap (rnBR true [(0,0,0,0)] s.hp)++rntR true [(0,0,0,0)] s.hp (retAV T s rs).2,0≠d) (h2:rnt true [(0,0,0,0)] s.hp (retAV T s rs).2=r) (h3:cs.map (rnB true [(0,0,0,0)] s.hp)=cs'):
  ∃σ D,RetG T rs σ D [(0,some (0, .box cs'))] r s:=by
 have e1:rnHR true [(0,0,0,0)] s.hp [(0,0,0,0)]=cs.flatMap (rnBR true [(0,0,0,0)] s.hp):=by simp only[rnHR,hg,rnOR,List.append_nil]
 have e4:rnH true [(0,0,0,0)] s.hp=[(0,some (0, .box (cs.map (rnB true [(0,0,0,0)] s.hp))))]:=by simp[rnH,hg,rnO]
 refine retG [(0,0,0,0)] h0 (by simp) (by simp) (by simp) ?_ h1.2 ?_ h2 (by rw[e4,h3])
 ·simp only[rnHP,hg,rnOP,and_true,true_and];exact h1.1
 ·rw[e1]
  intro d hd'
  have:=hd d hd'
  simp only[lk,if_neg this]
end
inductive BW (hp hp':Hp):List AV->List AV->Prop
 |nil:BW hp hp' [] []
 |same {c:AV} {cs cs':List AV}:BW hp hp' cs cs'->BW hp hp' (c::cs) (c::cs')
 |frz {c c':AV} {cs cs':List AV}:fzP 4 hp c->c'=fz 4 hp c->(∀i∈fzR 4 hp c,hp'.get i=none)->BW hp hp' cs cs'->BW hp hp' (c::cs) (c'::cs')
theorem BW.ok {hp hp':Hp} {cs cs':List AV} (h:BW hp hp' cs cs'):cs'.length=cs.length/\∀j (h:j<cs.length) (h':j<cs'.length),cs'[j]=cs[j]\/(fzP 4 hp cs[j]/\cs'[j]=fz 4 hp cs[j]/\∀i∈fzR 4 hp cs[j],hp'.get i=none):=by
 induction h with
 |nil=>exact⟨rfl,fun j h=>by simp at h⟩
 |same _ ih=>
  refine⟨by simp[ih.1],fun j h h'=>?_⟩
  cases j with
  |zero=>exact .inl rfl
  |succ j=>exact ih.2 j (by simpa using h) (by simpa using h')
 |frz h1 h2 h3 _ ih=>
  refine⟨by simp[ih.1],fun j h h'=>?_⟩
  cases j with
  |zero=>exact .inr ⟨h1,h2,h3⟩
  |succ j=>exact ih.2 j (by simpa using h) (by simpa using h')
theorem ObW.ofBW {hp hp':Hp} {cs cs':List AV} (h:BW hp hp' cs cs'):ObW hp hp' (.box cs) (.box cs'):= .box _ _ h.ok.1 h.ok.2
def nilC (i:Nat) (c:AV):AV:=if i=0 then .sl [] true else c
def nilH (i:Nat) (o:Nat×Ob):Option (Nat×Ob):=if i=0 then none else some o
theorem nilC_z {c:AV}:nilC 0 c= .sl [] true:=rfl
theorem nilH_z {o:Nat×Ob}:nilH 0 o=none:=rfl
theorem nilC_p {i:Nat} {c:AV} (h:i≠0):nilC i c=c:=if_neg h
theorem nilH_p {i:Nat} {o:Nat×Ob} (h:i≠0):nilH i o=some o:=if_neg h
theorem nilC_s {i:Nat} {c:AV}:nilC (i+1) c=c:=rfl
theorem nilH_s {i:Nat} {o:Nat×Ob}:nilH (i+1) o=some o:=rfl
open Go
section
variable {t:Nat} {l:List (List Int)}
theorem krows_length:(krows t l).length=l.length:=by simp[krows]
theorem krows_getD {i:Nat} (h:i<l.length):(krows t l).getD i .bad= .kid t 1 (ints (l.getD i [])):=by simp[krows,h]
theorem krows_snoc {r:List Int}:krows t l++[.kid t 1 (ints r)]=krows t (l++[r]):=by simp[krows]
theorem krows_set {i:Nat} {r:List Int}:(krows t l).set i (.kid t 1 (ints r))=krows t (l.set i r):=by simp[krows,List.map_set]
theorem krows_one {r:List Int}:[AV.kid t 1 (ints r)]=krows t [r]:=rfl
theorem all_krows:(∀y∈krows t l,y.cells.length=1)=True:=by
 refine eq_true fun e he=>?_
 obtain⟨x,_,rfl⟩:=List.mem_map.1 he
 rfl
theorem krows_map {f:AV->AV} {g:List Int->AV} (h:∀r,f (.kid t 1 (ints r))=g r):(krows t l).map (mapc f)=l.map g:=by
 simp only[krows,List.map_map]
 exact List.map_congr_left fun x _=>h x
theorem krows_all {f:AV->Prop} (h:∀r,f (.kid t 1 (ints r))):(∀e∈krows t l,∀c∈e.cells,f c)=True:=by
 refine eq_true fun e he c hc=>?_
 obtain⟨x,_,rfl⟩:=List.mem_map.1 he
 simp only[AV.cells,List.mem_singleton] at hc
 subst hc;exact h x
theorem krows_fm {f:AV->List Nat} (h:∀r,f (.kid t 1 (ints r))=[]):((krows t l).flatMap fun e=>e.cells.flatMap f)=[]:=by
 rw[List.flatMap_eq_nil_iff]
 intro e he
 obtain⟨x,_,rfl⟩:=List.mem_map.1 he
 simp[AV.cells,h x]
theorem krows_fz (n:Nat) (hp:Hp):(krows t l).map (mapc (fz n hp))=rows l:=krows_map fun r=>by cases n<;>rfl
theorem krows_fzP (n:Nat) (hp:Hp):(∀e∈krows t l,∀c∈e.cells,fzP n hp c)=True:=krows_all fun r=>by cases n<;>trivial
theorem krows_fzR (n:Nat) (hp:Hp):((krows t l).flatMap fun e=>e.cells.flatMap (fzR n hp))=[]:=krows_fm fun r=>by cases n<;>rfl
theorem krows_fzk (hp:Hp):(krows t l).map (mapc (fzk hp))=krows t l:=krows_map fun r=>rfl
theorem krows_rnKT (τ:Nm) (hp:Hp):(krows t l).map (mapc (rnK true τ hp))=krows t l:=krows_map fun r=>rfl
theorem krows_rnKF (τ:Nm) (hp:Hp):(krows t l).map (mapc (rnK false τ hp))=krows t l:=krows_map fun r=>rfl
theorem krows_rnKPT (τ:Nm) (hp:Hp):(∀e∈krows t l,∀c∈e.cells,rnKP true τ hp c)=True:=krows_all fun r=>trivial
theorem krows_rnKPF (τ:Nm) (hp:Hp):(∀e∈krows t l,∀c∈e.cells,rnKP false τ hp c)=True:=krows_all fun r=>trivial
theorem krows_rnKRT (τ:Nm) (hp:Hp):((krows t l).flatMap fun e=>e.cells.flatMap (rnKR true τ hp))=[]:=krows_fm fun r=>rfl
theorem krows_rnKRF (τ:Nm) (hp:Hp):((krows t l).flatMap fun e=>e.cells.flatMap (rnKR false τ hp))=[]:=krows_fm fun r=>rfl
theorem krows_esR:esR (krows t l)=[]:=by
 unfold esR
 rw[List.flatMap_eq_nil_iff]
 intro e he
 obtain⟨x,_,rfl⟩:=List.mem_map.1 he
 rfl
theorem replicate_ints {n:Nat}:List.replicate n (AV.lit (.int .i64 0))=ints (List.replicate n 0):=by simp[ints]
end
attribute [go_sem] krows_length krows_snoc krows_set all_krows krows_fz krows_fzP krows_fzR krows_fzk krows_rnKT krows_rnKF krows_rnKPT krows_rnKPF krows_rnKRT krows_rnKRF krows_esR replicate_ints
open Go
theorem awp_attach {C:Cx} {c:Code} {Q:Exit->St->Prop} {s:St} {id gi t k i rid rg n:Nat} {es:List AV} (hg:s.hp.get id=some (gi, .own t k es)) (hi:i<es.length)
  (he:es.getD i .bad= .slO rid rg 0 n) (hid:id≠rid) (hP:attP s.hp (.slO rid rg 0 n))
  (h:awp C c Q ⟨s.tm,(id,some (gi, .own t k (es.set i (att s.hp (.slO rid rg 0 n)))))::(rid,none)::s.hp,s.ck⟩):awp C c Q s:=by
 refine fun a w hr=>h a w ?_
 obtain⟨r1,r2,r3,e,r4,r5,r6⟩:=hr
 have hei:es[i]= .slO rid rg 0 n:=by rw[<-he,List.getD_eq_getElem?_getD,List.getElem?_eq_getElem hi];rfl
 obtain⟨ee,_,_,_,hor⟩:=r4.live id _ _ hg
 have hkl:=hor.2.2.2.1
 have hk1:k=1:=by have:=hkl i hi;rw[hei] at this;exact this.symm
 subst hk1
 obtain⟨t',k',xs,hv⟩:∃t' k' xs,att s.hp (.slO rid rg 0 n)= .kid t' k' xs:=by
  have hP':fzP 1 s.hp (.slO rid rg 0 n):=hP
  show ∃t' k' xs,(match s.hp.get rid with|some (_, .own t k es)=>if(0:Nat)=0 then AV.kid t k (es.map (mapc (fz 0 s.hp))) else fz 1 s.hp (.slO rid rg 0 n)|_=> .bad)= .kid t' k' xs
  simp only[fzP] at hP'
  cases hgr:s.hp.get rid with
  |none=>rw[hgr] at hP';exact hP'.elim
  |some q=>
   obtain⟨g',ob⟩:=q
   rw[hgr] at hP'
   cases ob with
   |own t k es=>exact⟨t,k,_,rfl⟩
   |box cs=>exact hP'.elim
   |mp _=>exact hP'.elim
 have hone:(att s.hp (.slO rid rg 0 n)).cells=[att s.hp (.slO rid rg 0 n)]:=by rw[hv];rfl
 have elem:∀j (hj:j<(es.set i (att s.hp (.slO rid rg 0 n))).length),(es.set i (att s.hp (.slO rid rg 0 n)))[j]=if i=j then att s.hp (.slO rid rg 0 n) else es[j]'(by simpa using hj):=fun j hj=>by
  rw[List.getElem_set]
 have hA:attR (.slO rid rg 0 n)=[rid]:=rfl
 have:=attach_ok r4 (fun a b=>a=i/\b=0) (es':=es.set i (att s.hp (.slO rid rg 0 n))) (D:=[rid]) hg (by simpa using hid) (by simp) ?_ ?_ ?_ ?_
 ·obtain⟨e',a1,a2,a3,a4,_,_⟩:=this
  exact⟨r1,r2,r3,e',a1,⟨a3.trans r5.zeq,r5.zlt,r5.ext.trans a2,fun b hb=>r5.mine b (a4 b hb)⟩,fun t=>(r6 t).ext a2⟩
 ·intro j hj
  rw[elem j hj]
  split
  ·rw[hone];rfl
  ·exact hkl _ _
 ·intro a ha ha' j hj hj'
  simp only[elem a ha'] at hj' ⊢
  by_cases hia:i=a
  ·subst hia
   simp only[if_true,hei] at hj hj' ⊢
   have hj0:j=0:=by simp[AV.cells] at hj;exact hj
   subst hj0
   refine .inr ⟨⟨trivial,rfl⟩,rid,by simp,rfl,hP,?_⟩
   show(att s.hp (.slO rid rg 0 n)).cells[0]=att s.hp (.slO rid rg 0 n)
   simp only[hone,List.getElem_cons_zero]
  ·simp only[if_neg hia];exact .inl trivial
 ·intro id' hid'
  simp only[List.mem_singleton] at hid'
  subst hid'
  refine⟨i,0,hi,by simpa using hi,by rw[hei];exact Nat.zero_lt_one,?_,?_⟩
  ·rw[elem i (by simpa using hi),if_pos rfl,hone];exact Nat.zero_lt_one
  ·simp only[hei];rfl
 ·intro id' _ a j a' j' _ _ _ _ hA hA' _ _
  exact⟨hA.1.trans hA'.1.symm,hA.2.trans hA'.2.symm⟩
open Go
def bls (l:List Bool):List AV:=l.map B
theorem bls_length (l:List Bool):(bls l).length=l.length:=by simp[bls]
theorem bls_getD {l:List Bool} {i:Nat} (h:i<l.length):(bls l).getD i .bad=B (l.getD i false):=by simp[bls,h]
theorem PE_bls (l:List Bool):PE (bls l)=True:=by
 refine eq_true fun e he c hc=>?_
 simp only[bls,List.mem_map] at he
 obtain⟨x,_,rfl⟩:=he
 simp only[AV.cells,List.mem_singleton] at hc
 subst hc;trivial
theorem all_bls {l:List Bool}:(∀y∈bls l,y.cells.length=1)=True:=by
 refine eq_true fun e he=>?_
 simp only[bls,List.mem_map] at he
 obtain⟨x,_,rfl⟩:=he
 rfl
theorem bls_snoc {l:List Bool} {b:Bool}:bls l++[.lit (.bool b)]=bls (l++[b]):=by simp[bls]
theorem bls_set {l:List Bool} {i:Nat} {b:Bool}:(bls l).set i (.lit (.bool b))=bls (l.set i b):=by simp[bls,List.map_set]
theorem lits_bls {l:List Bool}:(∀e∈bls l,∀c∈e.cells,isLit c)=True:=by
 refine eq_true fun e he c hc=>?_
 simp only[bls,List.mem_map] at he
 obtain⟨x,_,rfl⟩:=he
 simp only[AV.cells,List.mem_singleton] at hc
 subst hc;trivial
theorem replicate_bls {n:Nat}:List.replicate n (AV.lit (.bool false))=bls (List.replicate n false):=by simp[bls]
attribute [go_sem] bls_length PE_bls all_bls bls_snoc bls_set lits_bls replicate_bls
open Go
attribute [go_sem] ne_eq or_false false_or false_imp_iff implies_true List.nodup_cons List.nodup_nil
theorem uI {a b:Prop} (h:a) (h2:b):a/\b:=⟨h,h2⟩
structure Hld (p:Prop):Prop where
 out:p
theorem uW {p q:Prop} (k:p) (h:Hld p->q:=by intro k;(repeat first|refine awp_seq ?_|refine awp_skip ?_|refine awp_block ?_);exact k.out):q:=h ⟨k⟩
theorem uS {p q:Prop} (k:p) (h:Hld p->q:=by intro k;simp only[go_sem,Nat.reduceAdd,Nat.reduceSub,Nat.reduceMul,Nat.reduceLT,Nat.reduceEqDiff,Nat.reduceBEq,Nat.reduceLeDiff,Int.reduceToNat,↓reduceIte,Int.reduceEq,Int.reduceLT,Int.reduceLE,Int.reduceAdd,Int.reduceSub,Int.reduceNeg,reduceCtorEq];exact k.out):q:=h ⟨k⟩
theorem uS1 {f p q:Prop} (z:f) (k:p) (h:f->Hld p->q:=by intro z k;simp only[go_sem,Nat.reduceAdd,Nat.reduceSub,Nat.reduceMul,Nat.reduceLT,Nat.reduceEqDiff,Nat.reduceBEq,Nat.reduceLeDiff,Int.reduceToNat,↓reduceIte,Int.reduceEq,Int.reduceLT,Int.reduceLE,Int.reduceAdd,Int.reduceSub,Int.reduceNeg,reduceCtorEq,z];exact k.out):q:=h z ⟨k⟩
theorem uRT {p:Prop} (h:p:=by simp only[go_sem,Nat.reduceAdd,Nat.reduceSub,Nat.reduceMul,Nat.reduceLT,Nat.reduceEqDiff,Nat.reduceBEq,Nat.reduceLeDiff,Int.reduceToNat,↓reduceIte,Int.reduceEq,Int.reduceLT,Int.reduceLE,Int.reduceAdd,Int.reduceSub,Int.reduceNeg,reduceCtorEq]<;>trivial):p:=h
theorem uRT1 {f p:Prop} (z:f) (h:f->p:=by intro z;simp only[go_sem,Nat.reduceAdd,Nat.reduceSub,Nat.reduceMul,Nat.reduceLT,Nat.reduceEqDiff,Nat.reduceBEq,Nat.reduceLeDiff,Int.reduceToNat,↓reduceIte,Int.reduceEq,Int.reduceLT,Int.reduceLE,Int.reduceAdd,Int.reduceSub,Int.reduceNeg,reduceCtorEq,z]<;>trivial):p:=h z
theorem uX {p:Prop} (h:p:=by simp only[go_sem,Nat.reduceAdd,Nat.reduceSub,Nat.reduceMul,Nat.reduceLT,Nat.reduceEqDiff,Nat.reduceBEq,Nat.reduceLeDiff,Int.reduceToNat,↓reduceIte,Int.reduceEq,Int.reduceLT,Int.reduceLE,Int.reduceAdd,Int.reduceSub,Int.reduceNeg,reduceCtorEq]):p:=h
theorem uX1 {f p:Prop} (z:f) (h:f->p:=by intro z;simp only[go_sem,Nat.reduceAdd,Nat.reduceSub,Nat.reduceMul,Nat.reduceLT,Nat.reduceEqDiff,Nat.reduceBEq,Nat.reduceLeDiff,Int.reduceToNat,↓reduceIte,Int.reduceEq,Int.reduceLT,Int.reduceLE,Int.reduceAdd,Int.reduceSub,Int.reduceNeg,reduceCtorEq,z]):p:=h z
theorem uR {p q:Prop} (k:p) (h:Hld p->q:=by intro k;(repeat first|refine awp_seq ?_|refine awp_skip ?_|refine awp_block ?_);refine awp_region hC rfl fun K hK=>?_;simp only[go_sem,Nat.reduceAdd,Nat.reduceSub,Nat.reduceMul,Nat.reduceLT,Nat.reduceEqDiff,Nat.reduceBEq,Nat.reduceLeDiff,Int.reduceToNat,↓reduceIte,Int.reduceEq,Int.reduceLT,Int.reduceLE,Int.reduceAdd,Int.reduceSub,Int.reduceNeg,reduceCtorEq];revert hK;revert K;exact k.out):q:=h ⟨k⟩
theorem uD {p q:Prop} (k:p) (h:Hld p->q:=by intro k;(repeat first|refine awp_seq ?_|refine awp_skip ?_|refine awp_block ?_);refine awp_region_drawR hC (by kernel_rfl) (by kernel_rfl) rfl fun K hK=>?_;simp only[go_sem,Nat.reduceAdd,Nat.reduceSub,Nat.reduceMul,Nat.reduceLT,Nat.reduceEqDiff,Nat.reduceBEq,Nat.reduceLeDiff,Int.reduceToNat,↓reduceIte,Int.reduceEq,Int.reduceLT,Int.reduceLE,Int.reduceAdd,Int.reduceSub,Int.reduceNeg,reduceCtorEq];revert hK;revert K;exact k.out):q:=h ⟨k⟩
theorem uE {p q:Prop} (k:p) (h:Hld p->q:=by intro k;(repeat first|refine awp_seq ?_|refine awp_skip ?_|refine awp_block ?_);refine awp_region_still hC (by kernel_rfl) (by kernel_rfl) rfl fun K hK=>?_;simp only[go_sem,Nat.reduceAdd,Nat.reduceSub,Nat.reduceMul,Nat.reduceLT,Nat.reduceEqDiff,Nat.reduceBEq,Nat.reduceLeDiff,Int.reduceToNat,↓reduceIte,Int.reduceEq,Int.reduceLT,Int.reduceLE,Int.reduceAdd,Int.reduceSub,Int.reduceNeg,reduceCtorEq];revert hK;revert K;exact k.out):q:=h ⟨k⟩
theorem uA {p q:Prop} (k:p) (h:Hld p->q:=by intro k;(repeat first|refine awp_seq ?_|refine awp_skip ?_|refine awp_block ?_);refine awp_region hC rfl fun K hK=>?_;simp only[go_sem,Nat.reduceAdd,Nat.reduceSub,Nat.reduceMul,Nat.reduceLT,Nat.reduceEqDiff,Nat.reduceBEq,Nat.reduceLeDiff,Int.reduceToNat,↓reduceIte,Int.reduceEq,Int.reduceLT,Int.reduceLE,Int.reduceAdd,Int.reduceSub,Int.reduceNeg,reduceCtorEq];(repeat ((with_reducible refine And.intro ?_ ?_);focus (((repeat' apply And.intro)<;>first|omega|(simp;done)|kernel_rfl))));refine hK _ ?_;clear hK K;exact k.out):q:=h ⟨k⟩
theorem uK {p q:Prop} (k:p) (h:Hld p->q:=by intro k;(repeat first|refine awp_seq ?_|refine awp_skip ?_|refine awp_block ?_);refine awp_region_still hC (by kernel_rfl) (by kernel_rfl) rfl fun K hK=>?_;simp only[go_sem,Nat.reduceAdd,Nat.reduceSub,Nat.reduceMul,Nat.reduceLT,Nat.reduceEqDiff,Nat.reduceBEq,Nat.reduceLeDiff,Int.reduceToNat,↓reduceIte,Int.reduceEq,Int.reduceLT,Int.reduceLE,Int.reduceAdd,Int.reduceSub,Int.reduceNeg,reduceCtorEq];(repeat ((with_reducible refine And.intro ?_ ?_);focus (((repeat' apply And.intro)<;>first|omega|(simp;done)|kernel_rfl))));refine hK _ ?_;clear hK K;exact k.out):q:=h ⟨k⟩
theorem uT {p q:Prop} (k:p) (h:Hld p->q:=by intro k;(repeat first|refine awp_seq ?_|refine awp_skip ?_|refine awp_block ?_);refine condT rfl ?_;exact k.out):q:=h ⟨k⟩
theorem uF {p q:Prop} (k:p) (h:Hld p->q:=by intro k;(repeat first|refine awp_seq ?_|refine awp_skip ?_|refine awp_block ?_);refine condF rfl ?_;exact k.out):q:=h ⟨k⟩
theorem uC {p q:Prop} (k:p) (h:Hld p->q:=by intro k;(repeat first|refine awp_seq ?_|refine awp_skip ?_|refine awp_block ?_);(first|refine condT rfl ?_|refine condF rfl ?_);exact k.out):q:=h ⟨k⟩
theorem uR1 {f p q:Prop} (z:f) (k:p) (h:f->Hld p->q:=by intro z k;(repeat first|refine awp_seq ?_|refine awp_skip ?_|refine awp_block ?_);refine awp_region hC rfl fun K hK=>?_;simp only[go_sem,Nat.reduceAdd,Nat.reduceSub,Nat.reduceMul,Nat.reduceLT,Nat.reduceEqDiff,Nat.reduceBEq,Nat.reduceLeDiff,Int.reduceToNat,↓reduceIte,Int.reduceEq,Int.reduceLT,Int.reduceLE,Int.reduceAdd,Int.reduceSub,Int.reduceNeg,reduceCtorEq,z];revert hK;revert K;exact k.out):q:=h z ⟨k⟩
theorem uD1 {f p q:Prop} (z:f) (k:p) (h:f->Hld p->q:=by intro z k;(repeat first|refine awp_seq ?_|refine awp_skip ?_|refine awp_block ?_);refine awp_region_drawR hC (by kernel_rfl) (by kernel_rfl) rfl fun K hK=>?_;simp only[go_sem,Nat.reduceAdd,Nat.reduceSub,Nat.reduceMul,Nat.reduceLT,Nat.reduceEqDiff,Nat.reduceBEq,Nat.reduceLeDiff,Int.reduceToNat,↓reduceIte,Int.reduceEq,Int.reduceLT,Int.reduceLE,Int.reduceAdd,Int.reduceSub,Int.reduceNeg,reduceCtorEq,z];revert hK;revert K;exact k.out):q:=h z ⟨k⟩
theorem uE1 {f p q:Prop} (z:f) (k:p) (h:f->Hld p->q:=by intro z k;(repeat first|refine awp_seq ?_|refine awp_skip ?_|refine awp_block ?_);refine awp_region_still hC (by kernel_rfl) (by kernel_rfl) rfl fun K hK=>?_;simp only[go_sem,Nat.reduceAdd,Nat.reduceSub,Nat.reduceMul,Nat.reduceLT,Nat.reduceEqDiff,Nat.reduceBEq,Nat.reduceLeDiff,Int.reduceToNat,↓reduceIte,Int.reduceEq,Int.reduceLT,Int.reduceLE,Int.reduceAdd,Int.reduceSub,Int.reduceNeg,reduceCtorEq,z];revert hK;revert K;exact k.out):q:=h z ⟨k⟩
theorem uA1 {f p q:Prop} (z:f) (k:p) (h:f->Hld p->q:=by intro z k;(repeat first|refine awp_seq ?_|refine awp_skip ?_|refine awp_block ?_);refine awp_region hC rfl fun K hK=>?_;simp only[go_sem,Nat.reduceAdd,Nat.reduceSub,Nat.reduceMul,Nat.reduceLT,Nat.reduceEqDiff,Nat.reduceBEq,Nat.reduceLeDiff,Int.reduceToNat,↓reduceIte,Int.reduceEq,Int.reduceLT,Int.reduceLE,Int.reduceAdd,Int.reduceSub,Int.reduceNeg,reduceCtorEq,z];(repeat ((with_reducible refine And.intro ?_ ?_);focus (((repeat' apply And.intro)<;>first|omega|(simp;done)|kernel_rfl))));refine hK _ ?_;clear hK K;exact k.out):q:=h z ⟨k⟩
theorem uK1 {f p q:Prop} (z:f) (k:p) (h:f->Hld p->q:=by intro z k;(repeat first|refine awp_seq ?_|refine awp_skip ?_|refine awp_block ?_);refine awp_region_still hC (by kernel_rfl) (by kernel_rfl) rfl fun K hK=>?_;simp only[go_sem,Nat.reduceAdd,Nat.reduceSub,Nat.reduceMul,Nat.reduceLT,Nat.reduceEqDiff,Nat.reduceBEq,Nat.reduceLeDiff,Int.reduceToNat,↓reduceIte,Int.reduceEq,Int.reduceLT,Int.reduceLE,Int.reduceAdd,Int.reduceSub,Int.reduceNeg,reduceCtorEq,z];(repeat ((with_reducible refine And.intro ?_ ?_);focus (((repeat' apply And.intro)<;>first|omega|(simp;done)|kernel_rfl))));refine hK _ ?_;clear hK K;exact k.out):q:=h z ⟨k⟩
theorem uHN {p q:Prop} (k:p) (h:Hld p->q:=by intro k;(first|refine HOk.cons rfl ?_|refine HOk.gone ?_|refine HOk.opt rfl ?_|(refine HOk.cons ?_ ?_;(focus (simp only[go_sem,Nat.reduceAdd,Nat.reduceSub,Nat.reduceMul,Nat.reduceLT,Nat.reduceEqDiff,Nat.reduceBEq,Nat.reduceLeDiff,Int.reduceToNat,↓reduceIte,Int.reduceEq,Int.reduceLT,Int.reduceLE,Int.reduceAdd,Int.reduceSub,Int.reduceNeg,reduceCtorEq];done)))|(refine HOk.less rfl (ObW.ofBW ?_) ?_;(focus ((repeat (first|exact BW.nil|refine BW.same ?_|(refine BW.frz ?_ ?_ ?_ ?_;(focus (first|exact trivial|(simp only[go_sem,Nat.reduceAdd,Nat.reduceSub,Nat.reduceMul,Nat.reduceLT,Nat.reduceEqDiff,Nat.reduceBEq,Nat.reduceLeDiff,Int.reduceToNat,↓reduceIte,Int.reduceEq,Int.reduceLT,Int.reduceLE,Int.reduceAdd,Int.reduceSub,Int.reduceNeg,reduceCtorEq]<;>trivial)));(focus (first|rfl|((simp only[go_sem,Nat.reduceAdd,Nat.reduceSub,Nat.reduceMul,Nat.reduceLT,Nat.reduceEqDiff,Nat.reduceBEq,Nat.reduceLeDiff,Int.reduceToNat,↓reduceIte,Int.reduceEq,Int.reduceLT,Int.reduceLE,Int.reduceAdd,Int.reduceSub,Int.reduceNeg,reduceCtorEq]<;>rfl);done)));(focus (first|(simp only[go_sem,Nat.reduceAdd,Nat.reduceSub,Nat.reduceMul,Nat.reduceLT,Nat.reduceEqDiff,Nat.reduceBEq,Nat.reduceLeDiff,Int.reduceToNat,↓reduceIte,Int.reduceEq,Int.reduceLT,Int.reduceLE,Int.reduceAdd,Int.reduceSub,Int.reduceNeg,reduceCtorEq];done)|((simp only[go_sem,Nat.reduceAdd,Nat.reduceSub,Nat.reduceMul,Nat.reduceLT,Nat.reduceEqDiff,Nat.reduceBEq,Nat.reduceLeDiff,Int.reduceToNat,↓reduceIte,Int.reduceEq,Int.reduceLT,Int.reduceLE,Int.reduceAdd,Int.reduceSub,Int.reduceNeg,reduceCtorEq]<;>simp);done)|(simp;done)))))));done)));exact k.out):q:=h ⟨k⟩
theorem uHN1 {f p q:Prop} (z:f) (k:p) (h:f->Hld p->q:=by intro z k;(first|refine HOk.cons rfl ?_|refine HOk.gone ?_|refine HOk.opt rfl ?_|(refine HOk.cons ?_ ?_;(focus (simp only[go_sem,Nat.reduceAdd,Nat.reduceSub,Nat.reduceMul,Nat.reduceLT,Nat.reduceEqDiff,Nat.reduceBEq,Nat.reduceLeDiff,Int.reduceToNat,↓reduceIte,Int.reduceEq,Int.reduceLT,Int.reduceLE,Int.reduceAdd,Int.reduceSub,Int.reduceNeg,reduceCtorEq,z];done)))|(refine HOk.less rfl (ObW.ofBW ?_) ?_;(focus ((repeat (first|exact BW.nil|refine BW.same ?_|(refine BW.frz ?_ ?_ ?_ ?_;(focus (first|exact trivial|(simp only[go_sem,Nat.reduceAdd,Nat.reduceSub,Nat.reduceMul,Nat.reduceLT,Nat.reduceEqDiff,Nat.reduceBEq,Nat.reduceLeDiff,Int.reduceToNat,↓reduceIte,Int.reduceEq,Int.reduceLT,Int.reduceLE,Int.reduceAdd,Int.reduceSub,Int.reduceNeg,reduceCtorEq,z]<;>trivial)));(focus (first|rfl|((simp only[go_sem,Nat.reduceAdd,Nat.reduceSub,Nat.reduceMul,Nat.reduceLT,Nat.reduceEqDiff,Nat.reduceBEq,Nat.reduceLeDiff,Int.reduceToNat,↓reduceIte,Int.reduceEq,Int.reduceLT,Int.reduceLE,Int.reduceAdd,Int.reduceSub,Int.reduceNeg,reduceCtorEq,z]<;>rfl);done)));(focus (first|(simp only[go_sem,Nat.reduceAdd,Nat.reduceSub,Nat.reduceMul,Nat.reduceLT,Nat.reduceEqDiff,Nat.reduceBEq,Nat.reduceLeDiff,Int.reduceToNat,↓reduceIte,Int.reduceEq,Int.reduceLT,Int.reduceLE,Int.reduceAdd,Int.reduceSub,Int.reduceNeg,reduceCtorEq,z];done)|((simp only[go_sem,Nat.reduceAdd,Nat.reduceSub,Nat.reduceMul,Nat.reduceLT,Nat.reduceEqDiff,Nat.reduceBEq,Nat.reduceLeDiff,Int.reduceToNat,↓reduceIte,Int.reduceEq,Int.reduceLT,Int.reduceLE,Int.reduceAdd,Int.reduceSub,Int.reduceNeg,reduceCtorEq,z]<;>simp);done)|(simp;done)))))));done)));exact k.out):q:=h z ⟨k⟩
theorem uWN {p q:Prop} (k:p) (h:Hld p->q:=by intro k;(first|refine WOk.cons rfl ?_|(refine WOk.cons ?_ ?_;(focus (simp only[go_sem,Nat.reduceAdd,Nat.reduceSub,Nat.reduceMul,Nat.reduceLT,Nat.reduceEqDiff,Nat.reduceBEq,Nat.reduceLeDiff,Int.reduceToNat,↓reduceIte,Int.reduceEq,Int.reduceLT,Int.reduceLE,Int.reduceAdd,Int.reduceSub,Int.reduceNeg,reduceCtorEq];done)))|(refine WOk.snap ?_ ?_ ?_ ?_;(focus (first|exact trivial|(simp only[go_sem,Nat.reduceAdd,Nat.reduceSub,Nat.reduceMul,Nat.reduceLT,Nat.reduceEqDiff,Nat.reduceBEq,Nat.reduceLeDiff,Int.reduceToNat,↓reduceIte,Int.reduceEq,Int.reduceLT,Int.reduceLE,Int.reduceAdd,Int.reduceSub,Int.reduceNeg,reduceCtorEq]<;>trivial)));(focus (first|rfl|((simp only[go_sem,Nat.reduceAdd,Nat.reduceSub,Nat.reduceMul,Nat.reduceLT,Nat.reduceEqDiff,Nat.reduceBEq,Nat.reduceLeDiff,Int.reduceToNat,↓reduceIte,Int.reduceEq,Int.reduceLT,Int.reduceLE,Int.reduceAdd,Int.reduceSub,Int.reduceNeg,reduceCtorEq]<;>rfl);done)));(focus (first|(simp only[go_sem,Nat.reduceAdd,Nat.reduceSub,Nat.reduceMul,Nat.reduceLT,Nat.reduceEqDiff,Nat.reduceBEq,Nat.reduceLeDiff,Int.reduceToNat,↓reduceIte,Int.reduceEq,Int.reduceLT,Int.reduceLE,Int.reduceAdd,Int.reduceSub,Int.reduceNeg,reduceCtorEq];done)|((simp only[go_sem,Nat.reduceAdd,Nat.reduceSub,Nat.reduceMul,Nat.reduceLT,Nat.reduceEqDiff,Nat.reduceBEq,Nat.reduceLeDiff,Int.reduceToNat,↓reduceIte,Int.reduceEq,Int.reduceLT,Int.reduceLE,Int.reduceAdd,Int.reduceSub,Int.reduceNeg,reduceCtorEq]<;>simp);done)|(simp;done)))));exact k.out):q:=h ⟨k⟩
theorem uWN1 {f p q:Prop} (z:f) (k:p) (h:f->Hld p->q:=by intro z k;(first|refine WOk.cons rfl ?_|(refine WOk.cons ?_ ?_;(focus (simp only[go_sem,Nat.reduceAdd,Nat.reduceSub,Nat.reduceMul,Nat.reduceLT,Nat.reduceEqDiff,Nat.reduceBEq,Nat.reduceLeDiff,Int.reduceToNat,↓reduceIte,Int.reduceEq,Int.reduceLT,Int.reduceLE,Int.reduceAdd,Int.reduceSub,Int.reduceNeg,reduceCtorEq,z];done)))|(refine WOk.snap ?_ ?_ ?_ ?_;(focus (first|exact trivial|(simp only[go_sem,Nat.reduceAdd,Nat.reduceSub,Nat.reduceMul,Nat.reduceLT,Nat.reduceEqDiff,Nat.reduceBEq,Nat.reduceLeDiff,Int.reduceToNat,↓reduceIte,Int.reduceEq,Int.reduceLT,Int.reduceLE,Int.reduceAdd,Int.reduceSub,Int.reduceNeg,reduceCtorEq,z]<;>trivial)));(focus (first|rfl|((simp only[go_sem,Nat.reduceAdd,Nat.reduceSub,Nat.reduceMul,Nat.reduceLT,Nat.reduceEqDiff,Nat.reduceBEq,Nat.reduceLeDiff,Int.reduceToNat,↓reduceIte,Int.reduceEq,Int.reduceLT,Int.reduceLE,Int.reduceAdd,Int.reduceSub,Int.reduceNeg,reduceCtorEq,z]<;>rfl);done)));(focus (first|(simp only[go_sem,Nat.reduceAdd,Nat.reduceSub,Nat.reduceMul,Nat.reduceLT,Nat.reduceEqDiff,Nat.reduceBEq,Nat.reduceLeDiff,Int.reduceToNat,↓reduceIte,Int.reduceEq,Int.reduceLT,Int.reduceLE,Int.reduceAdd,Int.reduceSub,Int.reduceNeg,reduceCtorEq,z];done)|((simp only[go_sem,Nat.reduceAdd,Nat.reduceSub,Nat.reduceMul,Nat.reduceLT,Nat.reduceEqDiff,Nat.reduceBEq,Nat.reduceLeDiff,Int.reduceToNat,↓reduceIte,Int.reduceEq,Int.reduceLT,Int.reduceLE,Int.reduceAdd,Int.reduceSub,Int.reduceNeg,reduceCtorEq,z]<;>simp);done)|(simp;done)))));exact k.out):q:=h z ⟨k⟩
theorem uHF {s:St} {a b:Hp} (h:HOk s a b:=by repeat (first|exact HOk.nil|refine uHN ?_)):HOk s a b:=h
theorem uWF {s:St} {a:Hp} {b:List (Nat×AV)} (h:WOk s a b:=by repeat (first|exact WOk.nil|refine uWN ?_)):WOk s a b:=h
theorem uHF1 {s:St} {a b:Hp} {f:Prop} (z:f) (h:f->HOk s a b:=by intro z;repeat (first|exact HOk.nil|refine uHN1 z ?_)):HOk s a b:=h z
theorem uWF1 {s:St} {a:Hp} {b:List (Nat×AV)} {f:Prop} (z:f) (h:f->WOk s a b:=by intro z;repeat (first|exact WOk.nil|refine uWN1 z ?_)):WOk s a b:=h z
theorem uKF {s s':St} (hc:s.ck<=s'.ck:=by exact Nat.le_refl _) (hh:HOk s s'.hp s'.hp:=by exact uHF) (ht:WOk s s'.hp s'.tm:=by exact uWF):Weak s s':= .of hc hh ht
theorem uTS {p:Prop} (h:p:=by first|exact trivial|(simp only[go_sem,Nat.reduceAdd,Nat.reduceSub,Nat.reduceMul,Nat.reduceLT,Nat.reduceEqDiff,Nat.reduceBEq,Nat.reduceLeDiff,Int.reduceToNat,↓reduceIte,Int.reduceEq,Int.reduceLT,Int.reduceLE,Int.reduceAdd,Int.reduceSub,Int.reduceNeg,reduceCtorEq]<;>trivial)):p:=h
theorem uTE {p:Prop} (h:p:=by first|exact trivial|exact fun _ _=>rfl|(simp only[go_sem,Nat.reduceAdd,Nat.reduceSub,Nat.reduceMul,Nat.reduceLT,Nat.reduceEqDiff,Nat.reduceBEq,Nat.reduceLeDiff,Int.reduceToNat,↓reduceIte,Int.reduceEq,Int.reduceLT,Int.reduceLE,Int.reduceAdd,Int.reduceSub,Int.reduceNeg,reduceCtorEq,rnHP,rnHR,rnOP,rnOR,rnH,rnO,touched,drops,List.mem_cons,List.mem_append,List.not_mem_nil,List.mem_singleton,List.filter_cons,List.filter_nil,List.contains_cons,List.contains_nil,forall_eq_or_imp,forall_eq,and_true,Bool.or_false,beq_self_eq_true,List.append_assoc]<;>first|trivial|(simp;done)|omega)|(simp;done)):p:=h
theorem uTR {p:Prop} (h:p:=by first|rfl|(simp only[go_sem,Nat.reduceAdd,Nat.reduceSub,Nat.reduceMul,Nat.reduceLT,Nat.reduceEqDiff,Nat.reduceBEq,Nat.reduceLeDiff,Int.reduceToNat,↓reduceIte,Int.reduceEq,Int.reduceLT,Int.reduceLE,Int.reduceAdd,Int.reduceSub,Int.reduceNeg,reduceCtorEq,rnHP,rnHR,rnOP,rnOR,rnH,rnO,touched,drops,List.mem_cons,List.mem_append,List.not_mem_nil,List.mem_singleton,List.filter_cons,List.filter_nil,List.contains_cons,List.contains_nil,forall_eq_or_imp,forall_eq,and_true,Bool.or_false,beq_self_eq_true,List.append_assoc]<;>rfl)):p:=h
theorem uQS {p q:Prop} (k:p) (h:Hld p->q:=by intro k;simp only[go_sem,Nat.reduceAdd,Nat.reduceSub,Nat.reduceMul,Nat.reduceLT,Nat.reduceEqDiff,Nat.reduceBEq,Nat.reduceLeDiff,Int.reduceToNat,↓reduceIte,Int.reduceEq,Int.reduceLT,Int.reduceLE,Int.reduceAdd,Int.reduceSub,Int.reduceNeg,reduceCtorEq,rnHP,rnHR,rnOP,rnOR,rnH,rnO,touched,drops,List.mem_cons,List.mem_append,List.not_mem_nil,List.mem_singleton,List.filter_cons,List.filter_nil,List.contains_cons,List.contains_nil,forall_eq_or_imp,forall_eq,and_true,Bool.or_false,beq_self_eq_true,List.append_assoc];exact k.out):q:=h ⟨k⟩
theorem uH {p q:Prop} (k:p) (h:Hld p->q:=by intro k;(repeat ((with_reducible refine And.intro ?_ ?_);focus (((repeat' apply And.intro)<;>first|omega|(simp;done)|kernel_rfl))));exact k.out):q:=h ⟨k⟩
theorem uTE1 {f p:Prop} (z:f) (h:f->p:=by intro z;first|exact trivial|exact fun _ _=>rfl|(simp only[go_sem,Nat.reduceAdd,Nat.reduceSub,Nat.reduceMul,Nat.reduceLT,Nat.reduceEqDiff,Nat.reduceBEq,Nat.reduceLeDiff,Int.reduceToNat,↓reduceIte,Int.reduceEq,Int.reduceLT,Int.reduceLE,Int.reduceAdd,Int.reduceSub,Int.reduceNeg,reduceCtorEq,rnHP,rnHR,rnOP,rnOR,rnH,rnO,touched,drops,List.mem_cons,List.mem_append,List.not_mem_nil,List.mem_singleton,List.filter_cons,List.filter_nil,List.contains_cons,List.contains_nil,forall_eq_or_imp,forall_eq,and_true,Bool.or_false,beq_self_eq_true,List.append_assoc,z]<;>first|trivial|(simp;done)|omega)|(simp;done)):p:=h z
theorem uTR1 {f p:Prop} (z:f) (h:f->p:=by intro z;first|rfl|(simp only[go_sem,Nat.reduceAdd,Nat.reduceSub,Nat.reduceMul,Nat.reduceLT,Nat.reduceEqDiff,Nat.reduceBEq,Nat.reduceLeDiff,Int.reduceToNat,↓reduceIte,Int.reduceEq,Int.reduceLT,Int.reduceLE,Int.reduceAdd,Int.reduceSub,Int.reduceNeg,reduceCtorEq,rnHP,rnHR,rnOP,rnOR,rnH,rnO,touched,drops,List.mem_cons,List.mem_append,List.not_mem_nil,List.mem_singleton,List.filter_cons,List.filter_nil,List.contains_cons,List.contains_nil,forall_eq_or_imp,forall_eq,and_true,Bool.or_false,beq_self_eq_true,List.append_assoc,z]<;>rfl)):p:=h z
theorem uQS1 {f p q:Prop} (z:f) (k:p) (h:f->Hld p->q:=by intro z k;simp only[go_sem,Nat.reduceAdd,Nat.reduceSub,Nat.reduceMul,Nat.reduceLT,Nat.reduceEqDiff,Nat.reduceBEq,Nat.reduceLeDiff,Int.reduceToNat,↓reduceIte,Int.reduceEq,Int.reduceLT,Int.reduceLE,Int.reduceAdd,Int.reduceSub,Int.reduceNeg,reduceCtorEq,rnHP,rnHR,rnOP,rnOR,rnH,rnO,touched,drops,List.mem_cons,List.mem_append,List.not_mem_nil,List.mem_singleton,List.filter_cons,List.filter_nil,List.contains_cons,List.contains_nil,forall_eq_or_imp,forall_eq,and_true,Bool.or_false,beq_self_eq_true,List.append_assoc,z];exact k.out):q:=h z ⟨k⟩
theorem uRN {p q:Prop} (k:p) (h:Hld p->q:=by intro k;refine(retN (by simp only[go_sem,Nat.reduceAdd,Nat.reduceSub,Nat.reduceMul,Nat.reduceLT,Nat.reduceEqDiff,Nat.reduceBEq,Nat.reduceLeDiff,Int.reduceToNat,↓reduceIte,Int.reduceEq,Int.reduceLT,Int.reduceLE,Int.reduceAdd,Int.reduceSub,Int.reduceNeg,reduceCtorEq,retAV,resV]<;>simp) (by simp only[go_sem,Nat.reduceAdd,Nat.reduceSub,Nat.reduceMul,Nat.reduceLT,Nat.reduceEqDiff,Nat.reduceBEq,Nat.reduceLeDiff,Int.reduceToNat,↓reduceIte,Int.reduceEq,Int.reduceLT,Int.reduceLE,Int.reduceAdd,Int.reduceSub,Int.reduceNeg,reduceCtorEq,retAV,resV]<;>trivial) ?_);simp only[go_sem,Nat.reduceAdd,Nat.reduceSub,Nat.reduceMul,Nat.reduceLT,Nat.reduceEqDiff,Nat.reduceBEq,Nat.reduceLeDiff,Int.reduceToNat,↓reduceIte,Int.reduceEq,Int.reduceLT,Int.reduceLE,Int.reduceAdd,Int.reduceSub,Int.reduceNeg,reduceCtorEq,retAV,resV];exact k.out):q:=h ⟨k⟩
theorem uRN1 {f p q:Prop} (z:f) (k:p) (h:f->Hld p->q:=by intro z k;refine(retN (by simp only[go_sem,Nat.reduceAdd,Nat.reduceSub,Nat.reduceMul,Nat.reduceLT,Nat.reduceEqDiff,Nat.reduceBEq,Nat.reduceLeDiff,Int.reduceToNat,↓reduceIte,Int.reduceEq,Int.reduceLT,Int.reduceLE,Int.reduceAdd,Int.reduceSub,Int.reduceNeg,reduceCtorEq,retAV,resV,z]<;>simp) (by simp only[go_sem,Nat.reduceAdd,Nat.reduceSub,Nat.reduceMul,Nat.reduceLT,Nat.reduceEqDiff,Nat.reduceBEq,Nat.reduceLeDiff,Int.reduceToNat,↓reduceIte,Int.reduceEq,Int.reduceLT,Int.reduceLE,Int.reduceAdd,Int.reduceSub,Int.reduceNeg,reduceCtorEq,retAV,resV,z]<;>trivial) ?_);simp only[go_sem,Nat.reduceAdd,Nat.reduceSub,Nat.reduceMul,Nat.reduceLT,Nat.reduceEqDiff,Nat.reduceBEq,Nat.reduceLeDiff,Int.reduceToNat,↓reduceIte,Int.reduceEq,Int.reduceLT,Int.reduceLE,Int.reduceAdd,Int.reduceSub,Int.reduceNeg,reduceCtorEq,retAV,resV,z];exact k.out):q:=h z ⟨k⟩
theorem uTG {p:Prop} (h:p:=by first|exact trivial|(simp only[go_sem,Nat.reduceAdd,Nat.reduceSub,Nat.reduceMul,Nat.reduceLT,Nat.reduceEqDiff,Nat.reduceBEq,Nat.reduceLeDiff,Int.reduceToNat,↓reduceIte,Int.reduceEq,Int.reduceLT,Int.reduceLE,Int.reduceAdd,Int.reduceSub,Int.reduceNeg,reduceCtorEq,retAV,resV,rnHP,rnHR,rnOP,rnOR]<;>first|trivial|(simp;done))):p:=h
theorem uRM {p:Prop} (h:p:=by refine(retN (by simp only[go_sem,Nat.reduceAdd,Nat.reduceSub,Nat.reduceMul,Nat.reduceLT,Nat.reduceEqDiff,Nat.reduceBEq,Nat.reduceLeDiff,Int.reduceToNat,↓reduceIte,Int.reduceEq,Int.reduceLT,Int.reduceLE,Int.reduceAdd,Int.reduceSub,Int.reduceNeg,reduceCtorEq,retAV,resV]<;>simp) (by simp only[go_sem,Nat.reduceAdd,Nat.reduceSub,Nat.reduceMul,Nat.reduceLT,Nat.reduceEqDiff,Nat.reduceBEq,Nat.reduceLeDiff,Int.reduceToNat,↓reduceIte,Int.reduceEq,Int.reduceLT,Int.reduceLE,Int.reduceAdd,Int.reduceSub,Int.reduceNeg,reduceCtorEq,retAV,resV]<;>trivial) ?_);simp only[go_sem,Nat.reduceAdd,Nat.reduceSub,Nat.reduceMul,Nat.reduceLT,Nat.reduceEqDiff,Nat.reduceBEq,Nat.reduceLeDiff,Int.reduceToNat,↓reduceIte,Int.reduceEq,Int.reduceLT,Int.reduceLE,Int.reduceAdd,Int.reduceSub,Int.reduceNeg,reduceCtorEq,retAV,resV]):p:=h
theorem uRM1 {f p:Prop} (z:f) (h:f->p:=by intro z;refine(retN (by simp only[go_sem,Nat.reduceAdd,Nat.reduceSub,Nat.reduceMul,Nat.reduceLT,Nat.reduceEqDiff,Nat.reduceBEq,Nat.reduceLeDiff,Int.reduceToNat,↓reduceIte,Int.reduceEq,Int.reduceLT,Int.reduceLE,Int.reduceAdd,Int.reduceSub,Int.reduceNeg,reduceCtorEq,retAV,resV,z]<;>simp) (by simp only[go_sem,Nat.reduceAdd,Nat.reduceSub,Nat.reduceMul,Nat.reduceLT,Nat.reduceEqDiff,Nat.reduceBEq,Nat.reduceLeDiff,Int.reduceToNat,↓reduceIte,Int.reduceEq,Int.reduceLT,Int.reduceLE,Int.reduceAdd,Int.reduceSub,Int.reduceNeg,reduceCtorEq,retAV,resV,z]<;>trivial) ?_);simp only[go_sem,Nat.reduceAdd,Nat.reduceSub,Nat.reduceMul,Nat.reduceLT,Nat.reduceEqDiff,Nat.reduceBEq,Nat.reduceLeDiff,Int.reduceToNat,↓reduceIte,Int.reduceEq,Int.reduceLT,Int.reduceLE,Int.reduceAdd,Int.reduceSub,Int.reduceNeg,reduceCtorEq,retAV,resV,z]):p:=h z
theorem uTC {p:Prop} (h:p:=by first|exact trivial|(simp only[go_sem,Nat.reduceAdd,Nat.reduceSub,Nat.reduceMul,Nat.reduceLT,Nat.reduceEqDiff,Nat.reduceBEq,Nat.reduceLeDiff,Int.reduceToNat,↓reduceIte,Int.reduceEq,Int.reduceLT,Int.reduceLE,Int.reduceAdd,Int.reduceSub,Int.reduceNeg,reduceCtorEq,retAV,resV]<;>trivial)):p:=h
theorem uTC1 {f p:Prop} (z:f) (h:f->p:=by intro z;first|exact trivial|(simp only[go_sem,Nat.reduceAdd,Nat.reduceSub,Nat.reduceMul,Nat.reduceLT,Nat.reduceEqDiff,Nat.reduceBEq,Nat.reduceLeDiff,Int.reduceToNat,↓reduceIte,Int.reduceEq,Int.reduceLT,Int.reduceLE,Int.reduceAdd,Int.reduceSub,Int.reduceNeg,reduceCtorEq,retAV,resV,z]<;>trivial)):p:=h z
theorem uSC {p q:Prop} (k:p) (h:Hld p->q:=by intro k;simp only[go_sem,Nat.reduceAdd,Nat.reduceSub,Nat.reduceMul,Nat.reduceLT,Nat.reduceEqDiff,Nat.reduceBEq,Nat.reduceLeDiff,Int.reduceToNat,↓reduceIte,Int.reduceEq,Int.reduceLT,Int.reduceLE,Int.reduceAdd,Int.reduceSub,Int.reduceNeg,reduceCtorEq,retAV,resV];exact k.out):q:=h ⟨k⟩
theorem uXC {p:Prop} (h:p:=by simp only[go_sem,Nat.reduceAdd,Nat.reduceSub,Nat.reduceMul,Nat.reduceLT,Nat.reduceEqDiff,Nat.reduceBEq,Nat.reduceLeDiff,Int.reduceToNat,↓reduceIte,Int.reduceEq,Int.reduceLT,Int.reduceLE,Int.reduceAdd,Int.reduceSub,Int.reduceNeg,reduceCtorEq,retAV,resV]):p:=h
theorem uSG {p q:Prop} (k:p) (h:Hld p->q:=by intro k;simp only[go_sem,Nat.reduceAdd,Nat.reduceSub,Nat.reduceMul,Nat.reduceLT,Nat.reduceEqDiff,Nat.reduceBEq,Nat.reduceLeDiff,Int.reduceToNat,↓reduceIte,Int.reduceEq,Int.reduceLT,Int.reduceLE,Int.reduceAdd,Int.reduceSub,Int.reduceNeg,reduceCtorEq,retAV,resV,rnHP,rnHR,rnOP,rnOR,rnH,rnO];exact k.out):q:=h ⟨k⟩
theorem uXG {p:Prop} (h:p:=by simp only[go_sem,Nat.reduceAdd,Nat.reduceSub,Nat.reduceMul,Nat.reduceLT,Nat.reduceEqDiff,Nat.reduceBEq,Nat.reduceLeDiff,Int.reduceToNat,↓reduceIte,Int.reduceEq,Int.reduceLT,Int.reduceLE,Int.reduceAdd,Int.reduceSub,Int.reduceNeg,reduceCtorEq,retAV,resV,rnHP,rnHR,rnOP,rnOR,rnH,rnO]):p:=h
theorem uFN {a b p q:Prop} (hf:a) (hn:b) (k:p) (h:a->b->Hld p->q:=by intro hf hn k;refine SatG_of_awp (T:=tab) tab_ok hf rfl (by rfl) (by simp[hn]) ?_;intro w e X hX hC;clear hX;rw[hn];simp only[tm0,List.zipIdx,List.map];clear hf hn;revert hC;revert X e w;exact k.out):q:=h hf hn ⟨k⟩
theorem uRG {p:Prop} (h:p:=by simp only[go_sem,Nat.reduceAdd,Nat.reduceSub,Nat.reduceMul,Nat.reduceLT,Nat.reduceEqDiff,Nat.reduceBEq,Nat.reduceLeDiff,Int.reduceToNat,↓reduceIte,Int.reduceEq,Int.reduceLT,Int.reduceLE,Int.reduceAdd,Int.reduceSub,Int.reduceNeg,reduceCtorEq,retAV,resV]<;>trivial):p:=h
theorem uRG1 {f p:Prop} (z:f) (h:f->p:=by intro z;simp only[go_sem,Nat.reduceAdd,Nat.reduceSub,Nat.reduceMul,Nat.reduceLT,Nat.reduceEqDiff,Nat.reduceBEq,Nat.reduceLeDiff,Int.reduceToNat,↓reduceIte,Int.reduceEq,Int.reduceLT,Int.reduceLE,Int.reduceAdd,Int.reduceSub,Int.reduceNeg,reduceCtorEq,retAV,resV,z]<;>trivial):p:=h z
end Go.Sym
namespace Go.Proofs.YtkhjenddapaejaaGreatDoor
open Go Go.Sym
def tabTy:List (Nat×TI):=
[
 (2,⟨.int .i64,false,1,8,[.int .i64],false⟩),
 (3,⟨.int .i64,false,1,8,[.int .i64],false⟩),
 (4,⟨.bool,false,1,1,[.bool],false⟩),
 (5,⟨.int .u8,false,1,1,[.int .u8],false⟩),
 (7,⟨.struct [(0,2),(1,3),(2,4),(3,6)],true,4,24,[.int .i64, .int .i64, .bool, .int .u8],true⟩),
 (9,⟨.str,false,1,16,[.str],false⟩),
 (12,⟨.int .u64,false,1,8,[.int .u64],false⟩),
 (13,⟨.struct [(0,9),(1,12)],true,2,24,[.str, .int .u64],false⟩),
 (15,⟨.ptr 197,false,1,8,[.ptr],false⟩),
 (16,⟨.ptr 200,false,1,8,[.ptr],false⟩),
 (17,⟨.ptr 208,false,1,8,[.ptr],false⟩),
 (18,⟨.struct [(0,17)],true,1,8,[.ptr],false⟩),
 (21,⟨.int .i32,false,1,4,[.int .i32],false⟩),
 (22,⟨.slice 3,false,1,24,[.sl],false⟩),
 (23,⟨.slice 76,false,1,24,[.sl],false⟩),
 (25,⟨.ptr 71,false,1,8,[.ptr],false⟩),
 (27,⟨.slice 49,false,1,24,[.sl],false⟩),
 (28,⟨.slice 104,false,1,24,[.sl],false⟩),
 (29,⟨.struct [(0,27),(1,28)],true,2,48,[.sl, .sl],false⟩),
 (30,⟨.struct [(0,27),(1,28)],true,2,48,[.sl, .sl],false⟩),
 (32,⟨.slice 22,false,1,24,[.sl],false⟩),
 (33,⟨.struct [(0,32),(1,32)],true,2,48,[.sl, .sl],false⟩),
 (34,⟨.struct [(0,32),(1,32)],true,2,48,[.sl, .sl],false⟩),
 (38,⟨.slice 44,false,1,24,[.sl],false⟩),
 (39,⟨.int .i64,false,1,8,[.int .i64],false⟩),
 (43,⟨.struct [(0,3),(1,3),(2,3)],true,3,24,[.int .i64, .int .i64, .int .i64],true⟩),
 (44,⟨.struct [(0,3),(1,3),(2,3)],true,3,24,[.int .i64, .int .i64, .int .i64],true⟩),
 (48,⟨.struct [(0,9),(1,3),(2,3),(3,3),(4,22)],true,5,64,[.str, .int .i64, .int .i64, .int .i64, .sl],false⟩),
 (49,⟨.struct [(0,9),(1,3),(2,3),(3,3),(4,22)],true,5,64,[.str, .int .i64, .int .i64, .int .i64, .sl],false⟩),
 (51,⟨.struct [(0,3),(1,3)],true,2,16,[.int .i64, .int .i64],true⟩),
 (52,⟨.struct [(0,3),(1,3)],true,2,16,[.int .i64, .int .i64],true⟩),
 (70,⟨.struct [(0,22),(1,3)],true,2,32,[.sl, .int .i64],false⟩),
 (71,⟨.struct [(0,22),(1,3)],true,2,32,[.sl, .int .i64],false⟩),
 (73,⟨.slice 5,false,1,24,[.sl],false⟩),
 (75,⟨.struct [(0,3),(1,3),(2,3)],true,3,24,[.int .i64, .int .i64, .int .i64],true⟩),
 (76,⟨.struct [(0,3),(1,3),(2,3)],true,3,24,[.int .i64, .int .i64, .int .i64],true⟩),
 (77,⟨.ptr 111,false,1,8,[.ptr],false⟩),
 (86,⟨.struct [(0,22),(1,22)],true,2,48,[.sl, .sl],false⟩),
 (87,⟨.struct [(0,22),(1,22)],true,2,48,[.sl, .sl],false⟩),
 (101,⟨.slice 9,false,1,24,[.sl],false⟩),
 (103,⟨.slice 106,false,1,24,[.sl],false⟩),
 (104,⟨.struct [(0,3),(1,3),(2,3)],true,3,24,[.int .i64, .int .i64, .int .i64],true⟩),
 (105,⟨.struct [(0,49),(5,104),(8,101)],true,9,112,[.str, .int .i64, .int .i64, .int .i64, .sl, .int .i64, .int .i64, .int .i64, .sl],false⟩),
 (106,⟨.struct [(0,49),(5,104),(8,101)],true,9,112,[.str, .int .i64, .int .i64, .int .i64, .sl, .int .i64, .int .i64, .int .i64, .sl],false⟩),
 (110,⟨.struct [(0,30),(2,22)],true,3,72,[.sl, .sl, .sl],false⟩),
 (111,⟨.struct [(0,30),(2,22)],true,3,72,[.sl, .sl, .sl],false⟩),
 (122,⟨.int .u64,false,1,8,[.int .u64],false⟩),
 (124,⟨.slice 4,false,1,24,[.sl],false⟩),
 (152,⟨.int .i64,false,1,8,[.int .i64],false⟩),
 (159,⟨.int .u32,false,1,4,[.int .u32],false⟩),
 (161,⟨.int .u64,false,1,8,[.int .u64],false⟩),
 (164,⟨.map 3 3,false,1,8,[.map],false⟩),
 (178,⟨.int .u64,false,1,8,[.int .u64],false⟩),
 (182,⟨.ptr 3,false,1,8,[.ptr],false⟩),
 (189,⟨.array 32 5,true,32,32,[.int .u8, .int .u8, .int .u8, .int .u8, .int .u8, .int .u8, .int .u8, .int .u8, .int .u8, .int .u8, .int .u8, .int .u8, .int .u8, .int .u8, .int .u8, .int .u8, .int .u8, .int .u8, .int .u8, .int .u8, .int .u8, .int .u8, .int .u8, .int .u8, .int .u8, .int .u8, .int .u8, .int .u8, .int .u8, .int .u8, .int .u8, .int .u8],false⟩),
 (190,⟨.array 64 5,true,64,64,[.int .u8, .int .u8, .int .u8, .int .u8, .int .u8, .int .u8, .int .u8, .int .u8, .int .u8, .int .u8, .int .u8, .int .u8, .int .u8, .int .u8, .int .u8, .int .u8, .int .u8, .int .u8, .int .u8, .int .u8, .int .u8, .int .u8, .int .u8, .int .u8, .int .u8, .int .u8, .int .u8, .int .u8, .int .u8, .int .u8, .int .u8, .int .u8, .int .u8, .int .u8, .int .u8, .int .u8, .int .u8, .int .u8, .int .u8, .int .u8, .int .u8, .int .u8, .int .u8, .int .u8, .int .u8, .int .u8, .int .u8, .int .u8, .int .u8, .int .u8, .int .u8, .int .u8, .int .u8, .int .u8, .int .u8, .int .u8, .int .u8, .int .u8, .int .u8, .int .u8, .int .u8, .int .u8, .int .u8, .int .u8],false⟩),
 (191,⟨.ptr 178,false,1,8,[.ptr],false⟩),
 (196,⟨.struct [(0,17),(1,17),(2,17),(3,9)],true,4,40,[.ptr, .ptr, .ptr, .str],false⟩),
 (204,⟨.ptr 5,false,1,8,[.ptr],false⟩),
 (207,⟨.struct [(0,12),(1,12),(2,159),(3,201),(4,5),(5,5),(6,202),(7,203),(8,204),(9,205),(10,206)],true,11,48,[.int .u64, .int .u64, .int .u32, .int .u8, .int .u8, .int .u8, .int .u8, .fn, .ptr, .int .i32, .int .i32],false⟩)]
def wordsB:List ByteArray:=[⟨#[]⟩,⟨#[101,110,116,114,121]⟩,⟨#[98,101,108,116]⟩,⟨#[115,99,114,101,101,110]⟩,⟨#[100,105,118,101,114,116,101,114]⟩,⟨#[108,111,111,112]⟩,⟨#[103,97,116,101]⟩,⟨#[115,116,111,114,101]⟩,⟨#[99,104,117,116,101]⟩,⟨#[109,97,110,117,97,108]⟩]
def d32:List Int:=[0,1,28,2,29,14,24,3,30,22,20,15,25,17,4,8,31,27,13,23,21,19,16,7,26,12,18,6,11,5,10,9]
def d64:List Int:=[0,1,56,2,57,49,28,3,61,58,42,50,38,29,17,4,62,47,59,36,45,43,51,22,53,39,33,30,24,18,12,5,63,55,48,27,60,41,37,16,46,35,44,21,52,32,23,11,54,26,40,15,34,20,31,10,25,14,19,9,13,8,7,6]
def tabGl:List (Nat×List AV):=[(0,[.sl (wordsB.map S) false]),(1,d32.map fun n=> .lit (.int .u8 n)),(2,d64.map fun n=> .lit (.int .u8 n))]
def tab:Tab:=⟨tabTy,tabGl⟩
theorem tab_ok:TOk Tryz.prog tab:=TOk_of (by kernel_rfl)
theorem tb_2:tl tab 2=⟨.int .i64,false,1,8,[.int .i64],false⟩:=rfl
theorem tb_3:tl tab 3=⟨.int .i64,false,1,8,[.int .i64],false⟩:=rfl
theorem tb_4:tl tab 4=⟨.bool,false,1,1,[.bool],false⟩:=rfl
theorem tb_5:tl tab 5=⟨.int .u8,false,1,1,[.int .u8],false⟩:=rfl
theorem tb_7:tl tab 7=⟨.struct [(0,2),(1,3),(2,4),(3,6)],true,4,24,[.int .i64, .int .i64, .bool, .int .u8],true⟩:=rfl
theorem tb_9:tl tab 9=⟨.str,false,1,16,[.str],false⟩:=rfl
theorem tb_12:tl tab 12=⟨.int .u64,false,1,8,[.int .u64],false⟩:=rfl
theorem tb_13:tl tab 13=⟨.struct [(0,9),(1,12)],true,2,24,[.str, .int .u64],false⟩:=rfl
theorem tb_15:tl tab 15=⟨.ptr 197,false,1,8,[.ptr],false⟩:=rfl
theorem tb_16:tl tab 16=⟨.ptr 200,false,1,8,[.ptr],false⟩:=rfl
theorem tb_17:tl tab 17=⟨.ptr 208,false,1,8,[.ptr],false⟩:=rfl
theorem tb_18:tl tab 18=⟨.struct [(0,17)],true,1,8,[.ptr],false⟩:=rfl
theorem tb_21:tl tab 21=⟨.int .i32,false,1,4,[.int .i32],false⟩:=rfl
theorem tb_22:tl tab 22=⟨.slice 3,false,1,24,[.sl],false⟩:=rfl
theorem tb_23:tl tab 23=⟨.slice 76,false,1,24,[.sl],false⟩:=rfl
theorem tb_25:tl tab 25=⟨.ptr 71,false,1,8,[.ptr],false⟩:=rfl
theorem tb_27:tl tab 27=⟨.slice 49,false,1,24,[.sl],false⟩:=rfl
theorem tb_28:tl tab 28=⟨.slice 104,false,1,24,[.sl],false⟩:=rfl
theorem tb_29:tl tab 29=⟨.struct [(0,27),(1,28)],true,2,48,[.sl, .sl],false⟩:=rfl
theorem tb_30:tl tab 30=⟨.struct [(0,27),(1,28)],true,2,48,[.sl, .sl],false⟩:=rfl
theorem tb_32:tl tab 32=⟨.slice 22,false,1,24,[.sl],false⟩:=rfl
theorem tb_33:tl tab 33=⟨.struct [(0,32),(1,32)],true,2,48,[.sl, .sl],false⟩:=rfl
theorem tb_34:tl tab 34=⟨.struct [(0,32),(1,32)],true,2,48,[.sl, .sl],false⟩:=rfl
theorem tb_38:tl tab 38=⟨.slice 44,false,1,24,[.sl],false⟩:=rfl
theorem tb_39:tl tab 39=⟨.int .i64,false,1,8,[.int .i64],false⟩:=rfl
theorem tb_43:tl tab 43=⟨.struct [(0,3),(1,3),(2,3)],true,3,24,[.int .i64, .int .i64, .int .i64],true⟩:=rfl
theorem tb_44:tl tab 44=⟨.struct [(0,3),(1,3),(2,3)],true,3,24,[.int .i64, .int .i64, .int .i64],true⟩:=rfl
theorem tb_48:tl tab 48=⟨.struct [(0,9),(1,3),(2,3),(3,3),(4,22)],true,5,64,[.str, .int .i64, .int .i64, .int .i64, .sl],false⟩:=rfl
theorem tb_49:tl tab 49=⟨.struct [(0,9),(1,3),(2,3),(3,3),(4,22)],true,5,64,[.str, .int .i64, .int .i64, .int .i64, .sl],false⟩:=rfl
theorem tb_51:tl tab 51=⟨.struct [(0,3),(1,3)],true,2,16,[.int .i64, .int .i64],true⟩:=rfl
theorem tb_52:tl tab 52=⟨.struct [(0,3),(1,3)],true,2,16,[.int .i64, .int .i64],true⟩:=rfl
theorem tb_70:tl tab 70=⟨.struct [(0,22),(1,3)],true,2,32,[.sl, .int .i64],false⟩:=rfl
theorem tb_71:tl tab 71=⟨.struct [(0,22),(1,3)],true,2,32,[.sl, .int .i64],false⟩:=rfl
theorem tb_73:tl tab 73=⟨.slice 5,false,1,24,[.sl],false⟩:=rfl
theorem tb_75:tl tab 75=⟨.struct [(0,3),(1,3),(2,3)],true,3,24,[.int .i64, .int .i64, .int .i64],true⟩:=rfl
theorem tb_76:tl tab 76=⟨.struct [(0,3),(1,3),(2,3)],true,3,24,[.int .i64, .int .i64, .int .i64],true⟩:=rfl
theorem tb_77:tl tab 77=⟨.ptr 111,false,1,8,[.ptr],false⟩:=rfl
theorem tb_86:tl tab 86=⟨.struct [(0,22),(1,22)],true,2,48,[.sl, .sl],false⟩:=rfl
theorem tb_87:tl tab 87=⟨.struct [(0,22),(1,22)],true,2,48,[.sl, .sl],false⟩:=rfl
theorem tb_101:tl tab 101=⟨.slice 9,false,1,24,[.sl],false⟩:=rfl
theorem tb_103:tl tab 103=⟨.slice 106,false,1,24,[.sl],false⟩:=rfl
theorem tb_104:tl tab 104=⟨.struct [(0,3),(1,3),(2,3)],true,3,24,[.int .i64, .int .i64, .int .i64],true⟩:=rfl
theorem tb_105:tl tab 105=⟨.struct [(0,49),(5,104),(8,101)],true,9,112,[.str, .int .i64, .int .i64, .int .i64, .sl, .int .i64, .int .i64, .int .i64, .sl],false⟩:=rfl
theorem tb_106:tl tab 106=⟨.struct [(0,49),(5,104),(8,101)],true,9,112,[.str, .int .i64, .int .i64, .int .i64, .sl, .int .i64, .int .i64, .int .i64, .sl],false⟩:=rfl
theorem tb_110:tl tab 110=⟨.struct [(0,30),(2,22)],true,3,72,[.sl, .sl, .sl],false⟩:=rfl
theorem tb_111:tl tab 111=⟨.struct [(0,30),(2,22)],true,3,72,[.sl, .sl, .sl],false⟩:=rfl
theorem tb_122:tl tab 122=⟨.int .u64,false,1,8,[.int .u64],false⟩:=rfl
theorem tb_124:tl tab 124=⟨.slice 4,false,1,24,[.sl],false⟩:=rfl
theorem tb_152:tl tab 152=⟨.int .i64,false,1,8,[.int .i64],false⟩:=rfl
theorem tb_159:tl tab 159=⟨.int .u32,false,1,4,[.int .u32],false⟩:=rfl
theorem tb_161:tl tab 161=⟨.int .u64,false,1,8,[.int .u64],false⟩:=rfl
theorem tb_164:tl tab 164=⟨.map 3 3,false,1,8,[.map],false⟩:=rfl
theorem tb_178:tl tab 178=⟨.int .u64,false,1,8,[.int .u64],false⟩:=rfl
theorem tb_182:tl tab 182=⟨.ptr 3,false,1,8,[.ptr],false⟩:=rfl
theorem tb_189:tl tab 189=⟨.array 32 5,true,32,32,[.int .u8, .int .u8, .int .u8, .int .u8, .int .u8, .int .u8, .int .u8, .int .u8, .int .u8, .int .u8, .int .u8, .int .u8, .int .u8, .int .u8, .int .u8, .int .u8, .int .u8, .int .u8, .int .u8, .int .u8, .int .u8, .int .u8, .int .u8, .int .u8, .int .u8, .int .u8, .int .u8, .int .u8, .int .u8, .int .u8, .int .u8, .int .u8],false⟩:=rfl
theorem tb_190:tl tab 190=⟨.array 64 5,true,64,64,[.int .u8, .int .u8, .int .u8, .int .u8, .int .u8, .int .u8, .int .u8, .int .u8, .int .u8, .int .u8, .int .u8, .int .u8, .int .u8, .int .u8, .int .u8, .int .u8, .int .u8, .int .u8, .int .u8, .int .u8, .int .u8, .int .u8, .int .u8, .int .u8, .int .u8, .int .u8, .int .u8, .int .u8, .int .u8, .int .u8, .int .u8, .int .u8, .int .u8, .int .u8, .int .u8, .int .u8, .int .u8, .int .u8, .int .u8, .int .u8, .int .u8, .int .u8, .int .u8, .int .u8, .int .u8, .int .u8, .int .u8, .int .u8, .int .u8, .int .u8, .int .u8, .int .u8, .int .u8, .int .u8, .int .u8, .int .u8, .int .u8, .int .u8, .int .u8, .int .u8, .int .u8, .int .u8, .int .u8, .int .u8],false⟩:=rfl
theorem tb_191:tl tab 191=⟨.ptr 178,false,1,8,[.ptr],false⟩:=rfl
theorem tb_196:tl tab 196=⟨.struct [(0,17),(1,17),(2,17),(3,9)],true,4,40,[.ptr, .ptr, .ptr, .str],false⟩:=rfl
theorem tb_204:tl tab 204=⟨.ptr 5,false,1,8,[.ptr],false⟩:=rfl
attribute [go_sem] tb_2 tb_3 tb_4 tb_5 tb_7 tb_9 tb_12 tb_13 tb_15 tb_16 tb_17 tb_18 tb_21 tb_22 tb_23 tb_25 tb_27 tb_28 tb_29 tb_30 tb_32 tb_33 tb_34 tb_38 tb_39 tb_43 tb_44 tb_48 tb_49 tb_51 tb_52 tb_70 tb_71 tb_73 tb_75 tb_76 tb_77 tb_86 tb_87 tb_101 tb_103 tb_104 tb_105 tb_106 tb_110 tb_111 tb_122 tb_124 tb_152 tb_159 tb_161 tb_164 tb_178 tb_182 tb_189 tb_190 tb_191 tb_196 tb_204
def modI (x n:Int):Int:=if n<1 then 0 else x % n
def I64 (x:Int):Prop:=-9223372036854775808<=x/\x<=9223372036854775807
theorem getD_memI {l:List Int} {n:Nat} (h:n<l.length):l.getD n 0∈l:=by
 rw[List.getD_eq_getElem?_getD,List.getElem?_eq_getElem h];exact List.getElem_mem h
theorem mod_sat (x n:Int) (hx:I64 x) (hn':n<=9223372036854775807):SatG Tryz.prog tab 60 [] [I x,I n] [] (I (modI x n)):=by
 obtain⟨hx,hx'⟩:=hx
 have h1:¬n<1->modI x n=if x.tmod n<0 then x.tmod n+n else x.tmod n:=by
  intro h
  rw[modI,if_neg h]
  by_cases hx0:x<0
  ·rw[Int.tmod_eq_emod]
   have:=Int.emod_nonneg x (b:=n) (by omega)
   have:=Int.emod_lt_of_pos x (b:=n) (by omega)
   have hnn:(n.natAbs:Int)=n:=by omega
   split<;>split<;>omega
  ·have hx1:0<=x:=by omega
   have:=Int.tmod_nonneg n hx1
   rw[if_neg (by omega),Int.tmod_eq_emod_of_nonneg hx1]
 have h2:¬n<1->-n<x.tmod n/\x.tmod n<n:=by
  intro h
  have:=Int.tmod_lt_of_pos x (b:=n) (by omega)
  have:=Int.lt_tmod_of_pos x (b:=n) (by omega)
  omega
 refine uFN Tryz.func60 Tryz.ntmps60 ?_;intro w e X hC
 repeat refine uA ?_
 refine uW ?_;refine condP _ rfl (fun h=>?_) (fun h=>?_)
 ·repeat refine uA ?_
  (refine awp_ret (ret1 uRT ?_);try rfl)
  simp only[go_sem,Nat.reduceAdd,Nat.reduceSub,Nat.reduceMul,Nat.reduceLT,Nat.reduceEqDiff,Nat.reduceBEq,Nat.reduceLeDiff,Int.reduceToNat,↓reduceIte,Int.reduceEq,Int.reduceLT,Int.reduceLE,Int.reduceAdd,Int.reduceSub,Int.reduceNeg,reduceCtorEq,modI,if_pos h]
 ·obtain⟨h3,h4⟩:=h2 h
  repeat refine uA ?_
  refine uW ?_;refine condP _ rfl (fun e=>?_) (fun e=>?_)
  ·repeat refine uA ?_
   (refine awp_ret (ret1 uRT ?_);try rfl)
   simp only[go_sem,Nat.reduceAdd,Nat.reduceSub,Nat.reduceMul,Nat.reduceLT,Nat.reduceEqDiff,Nat.reduceBEq,Nat.reduceLeDiff,Int.reduceToNat,↓reduceIte,Int.reduceEq,Int.reduceLT,Int.reduceLE,Int.reduceAdd,Int.reduceSub,Int.reduceNeg,reduceCtorEq,h1 h,if_pos e]
  ·repeat refine uA ?_
   (refine awp_ret (ret1 uRT ?_);try rfl)
   simp only[go_sem,Nat.reduceAdd,Nat.reduceSub,Nat.reduceMul,Nat.reduceLT,Nat.reduceEqDiff,Nat.reduceBEq,Nat.reduceLeDiff,Int.reduceToNat,↓reduceIte,Int.reduceEq,Int.reduceLT,Int.reduceLE,Int.reduceAdd,Int.reduceSub,Int.reduceNeg,reduceCtorEq,h1 h,if_neg e]
def nxs (l:List Int) (a k:Nat):Nat:=min (a+k) l.length
theorem nxs_get {l:List Int} {a i:Nat}:l.getD (nxs l a i) 0=l.getD (a+i) 0:=by
 unfold nxs
 by_cases h:a+i<l.length
 ·rw[Nat.min_eq_left (by omega)]
 ·rw[Nat.min_eq_right (by omega),List.getD_eq_getElem?_getD,List.getD_eq_getElem?_getD,List.getElem?_eq_none (by omega),List.getElem?_eq_none (by omega)]
def Fits (l:List Int):Prop:=l.length<=2000/\∀x∈l,I64 x
theorem Fits.get {l:List Int} (hf:Fits l) (a:Nat):I64 (l.getD a 0):=by
 by_cases h:a<l.length
 ·exact hf.2 _ (getD_memI h)
 ·rw[List.getD_eq_getElem?_getD,List.getElem?_eq_none (by omega)];exact⟨by decide,by decide⟩
abbrev srcB (l:List Int) (a:Nat):Hp:=[(0,some (0, .box [IS l,I a]))]
theorem raw_sat (l:List Int) (a:Nat) (hf:Fits l) (ha:a<=l.length):
  SatG Tryz.prog tab 61 (srcB l a) [.ptO 0 0 0 0 0] (srcB l (nxs l a 1)) (I (l.getD a 0)):=by
 have hl1:=hf.1
 refine uFN Tryz.func61 Tryz.ntmps61 ?_;intro w e X hC
 repeat refine uA ?_
 refine uK ?_
 refine uW ?_;refine condP _ rfl (fun e=>?_) (fun e=>?_)
 ·have h:l.length<=a:=by omega
  repeat refine uA ?_
  (refine awp_ret (retB1 rfl uTS uTS ?_ ?_);all_goals (first|refine uS ?_|exact uX|skip))
  ·rw[List.getD_eq_getElem?_getD,List.getElem?_eq_none h];rfl
  ·rw[show nxs l a 1=a by unfold nxs;omega]
 ·have h:a<l.length:=by omega
  repeat refine uA ?_
  have e1:(a:Int)+1 - 1=(a:Int):=by omega
  refine uK1 (uI @e1 (ints_getD h)) ?_
  (refine awp_ret (retB1 rfl uTS uTS ?_ ?_);all_goals (first|refine uS ?_|exact uX|skip))
  ·rw[show nxs l a 1=a+1 by unfold nxs;omega];rfl
theorem n_sat (l:List Int) (a:Nat) (n:Int) (hf:Fits l) (ha:a<=l.length) (hn:n<=9223372036854775807):
  SatG Tryz.prog tab 27 (srcB l a) [.ptO 0 0 0 0 0,I n] (srcB l (nxs l a 1)) (I (modI (l.getD a 0) n)):=by
 refine uFN Tryz.func27 Tryz.ntmps27 ?_;intro w e X hC
 repeat refine uA ?_
 refine uR ?_;intro K hK
 refine callL rfl ((raw_sat l a hf ha)) uTS uTS uTS uTS uTS ?_;refine uS ?_
 refine callF uTS ((mod_sat (l.getD a 0) n (hf.get a) hn)) uTS uTS uTS ?_;refine uS ?_
 refine hK _ ?_;clear hK K
 (refine awp_ret (retB1 rfl uTS uTS ?_ ?_);all_goals (first|refine uS ?_|exact uX|skip))
theorem modI_lt {x n:Int} (h:1<=n):0<=modI x n/\modI x n<n:=by
 unfold modI
 rw[if_neg (by omega)]
 exact⟨Int.emod_nonneg _ (by omega),Int.emod_lt_of_pos _ (by omega)⟩
structure Nd where
 nm:ByteArray
 kd:Int
 ln:Int
 zn:Int
 ex:List Int
 deriving Inhabited
abbrev Nd.av (x:Nd):AV:= .agg [S x.nm,I x.kd,I x.ln,I x.zn,IS x.ex]
def nds (l:List Nd):List AV:=l.map Nd.av
theorem nds_length (l:List Nd):(nds l).length=l.length:=by simp[nds]
theorem nds_getD {l:List Nd} {i:Nat} (h:i<l.length):(nds l).getD i .bad=(l.getD i default).av:=by simp[nds,h]
theorem PE_nds (l:List Nd):PE (nds l)=True:=by
 refine eq_true fun e he c hc=>?_
 simp only[nds,List.mem_map] at he
 obtain⟨x,_,rfl⟩:=he
 simp only[AV.cells,List.mem_cons,List.not_mem_nil,or_false] at hc
 rcases hc with rfl|rfl|rfl|rfl|rfl<;>first|trivial|rfl
theorem all_nds {l:List Nd}:(∀y∈nds l,y.cells.length=5)=True:=by
 refine eq_true fun e he=>?_
 simp only[nds,List.mem_map] at he
 obtain⟨x,_,rfl⟩:=he
 rfl
theorem nds_snoc {l:List Nd} {nm:ByteArray} {kd:Int} {ln:Int} {zn:Int} {ex:List Int}:nds l++[.agg [.lit (.string nm), .lit (.int .i64 kd), .lit (.int .i64 ln), .lit (.int .i64 zn), .sl (ints ex) false]]=nds (l++[⟨nm,kd,ln,zn,ex⟩]):=by simp[nds]
theorem nds_set {l:List Nd} {i:Nat} {nm:ByteArray} {kd:Int} {ln:Int} {zn:Int} {ex:List Int}:(nds l).set i (.agg [.lit (.string nm), .lit (.int .i64 kd), .lit (.int .i64 ln), .lit (.int .i64 zn), .sl (ints ex) false])=nds (l.set i ⟨nm,kd,ln,zn,ex⟩):=by simp[nds,List.map_set]
attribute [go_sem] nds_length PE_nds all_nds nds_snoc nds_set
structure T3 where
 a:Int
 b:Int
 c:Int
 deriving Inhabited
abbrev T3.av (x:T3):AV:= .agg [I x.a,I x.b,I x.c]
def t3s (l:List T3):List AV:=l.map T3.av
theorem t3s_length (l:List T3):(t3s l).length=l.length:=by simp[t3s]
theorem t3s_getD {l:List T3} {i:Nat} (h:i<l.length):(t3s l).getD i .bad=(l.getD i default).av:=by simp[t3s,h]
theorem PE_t3s (l:List T3):PE (t3s l)=True:=by
 refine eq_true fun e he c hc=>?_
 simp only[t3s,List.mem_map] at he
 obtain⟨x,_,rfl⟩:=he
 simp only[AV.cells,List.mem_cons,List.not_mem_nil,or_false] at hc
 rcases hc with rfl|rfl|rfl<;>first|trivial|rfl
theorem all_t3s {l:List T3}:(∀y∈t3s l,y.cells.length=3)=True:=by
 refine eq_true fun e he=>?_
 simp only[t3s,List.mem_map] at he
 obtain⟨x,_,rfl⟩:=he
 rfl
theorem t3s_snoc {l:List T3} {a:Int} {b:Int} {c:Int}:t3s l++[.agg [.lit (.int .i64 a), .lit (.int .i64 b), .lit (.int .i64 c)]]=t3s (l++[⟨a,b,c⟩]):=by simp[t3s]
theorem t3s_set {l:List T3} {i:Nat} {a:Int} {b:Int} {c:Int}:(t3s l).set i (.agg [.lit (.int .i64 a), .lit (.int .i64 b), .lit (.int .i64 c)])=t3s (l.set i ⟨a,b,c⟩):=by simp[t3s,List.map_set]
theorem t3s_take {l:List T3} {i:Nat}:(t3s l).take i=t3s (l.take i):=by simp[t3s]
theorem t3s_nil:t3s []=[]:=rfl
theorem t3s_lits {l:List T3}:(∀e∈t3s l,∀c∈e.cells,isLit c)=True:=by
 refine eq_true fun e he c hc=>?_
 simp only[t3s,List.mem_map] at he
 obtain⟨x,_,rfl⟩:=he
 simp only[AV.cells,List.mem_cons,List.not_mem_nil,or_false] at hc
 rcases hc with rfl|rfl|rfl<;>first|trivial|rfl
theorem trT_t3s (L:List Nat) (l:List T3):(∀e∈t3s l,∀c∈e.cells,trA true L c)=True:=by
 refine eq_true fun e he c hc=>?_
 simp only[t3s,List.mem_map] at he
 obtain⟨x,_,rfl⟩:=he
 simp only[AV.cells,List.mem_cons,List.not_mem_nil,or_false] at hc
 rcases hc with rfl|rfl|rfl<;>first|trivial|rfl
attribute [go_sem] t3s_length PE_t3s all_t3s t3s_snoc t3s_set t3s_lits trT_t3s
structure Ly where
 nodes:List Nd
 devs:List T3
abbrev Ly.av (x:Ly):AV:= .agg [.sl (nds x.nodes) false, .sl (t3s x.devs) false]
structure Pl where
 slots:List (List Int)
 bins:List (List Int)
abbrev Pl.av (x:Pl):AV:= .agg [RS x.slots,RS x.bins]
theorem range_sat (l:List Int) (a:Nat) (lo hi:Int) (hf:Fits l) (ha:a<=l.length) (h1:-1000000<=lo/\lo<=1000000) (h2:-1000000<=hi/\hi<=1000000) (h:lo<=hi):
  SatG Tryz.prog tab 36 (srcB l a) [.ptO 0 0 0 0 0,I lo,I hi] (srcB l (nxs l a 1)) (I (lo+modI (l.getD a 0) (hi - lo+1))):=by
 have hm:=modI_lt (x:=l.getD a 0) (n:=hi - lo+1) (by omega)
 refine uFN Tryz.func36 Tryz.ntmps36 ?_;intro w e X hC
 repeat refine uA ?_
 refine uR ?_;intro K hK
 refine⟨by omega,by omega,?_⟩
 refine callL rfl ((n_sat l a (hi - lo+1) hf ha (by omega))) uTS uTS uTS uTS uTS ?_;refine uS ?_
 refine⟨by omega,?_⟩
 refine hK _ ?_;clear hK K
 (refine awp_ret (retB1 rfl uTS uTS ?_ ?_);all_goals (first|refine uS ?_|exact uX|skip))
theorem pick_sat (l:List Int) (a:Nat) (es:List Int) (hf:Fits l) (ha:a<=l.length) (h0:0<es.length) (hn:es.length<=9223372036854775807):
  SatG Tryz.prog tab 43 (srcB l a) [.ptO 0 0 0 0 0,IS es] (srcB l (nxs l a 1)) (I (es.getD (modI (l.getD a 0) es.length).toNat 0)):=by
 have hm:=modI_lt (x:=l.getD a 0) (n:=es.length) (by omega)
 refine uFN Tryz.func43 Tryz.ntmps43 ?_;intro w e X hC
 repeat refine uA ?_
 refine uR ?_;intro K hK
 refine callL rfl ((n_sat l a es.length hf ha (by omega))) uTS uTS uTS uTS uTS ?_;refine uS ?_
 generalize modI (l.getD a 0) es.length=m at*
 have hlt:m.toNat<es.length:=by omega
 first|refine uS1 (ints_getD hlt) ?_|exact uX1 (ints_getD hlt)
 refine⟨(by(repeat' apply And.intro)<;>first|omega|simp),?_⟩
 refine hK _ ?_;clear hK K
 (refine awp_ret (retB1 rfl uTS uTS ?_ ?_);all_goals (first|refine uS ?_|exact uX|skip))
theorem in_sat (l:List Int) (x:Int) (hn:l.length<=9223372036854775807):SatG Tryz.prog tab 24 [] [IS l,I x] [] (B (decide (x∈l))):=by
 refine uFN Tryz.func24 Tryz.ntmps24 ?_;intro w e X hC
 repeat refine uA ?_
 refine uW ?_
 refine awp_loopW (fun i:Nat×Nat=>⟨[(0,IS l),(1,I x),(5,I i.2)],[],i.1⟩) (fun i=>i.2<=l.length/\∀j,j<i.2->l.getD j 0≠x) (fun i=>l.length - i.2) (_,0) ⟨Nat.zero_le _,fun j hj=>absurd hj (Nat.not_lt_zero _)⟩ (uKF) ?_
 rintro⟨ck,i⟩ ⟨hi,hj⟩
 simp only at hi hj
 repeat refine uA ?_
 refine uW ?_;refine condP _ rfl (fun h=>?_) (fun h=>?_)
 ·have hlt:i<l.length:=by omega
  repeat refine uA1 (ints_getD hlt) ?_
  refine uW ?_;refine condP _ rfl (fun e'=>?_) (fun e'=>?_)
  ·repeat refine uA ?_
   (refine awp_ret (ret1 uRT ?_);try rfl)
   have:x∈l:=by rw[<-e'];exact getD_memI hlt
   first|refine uS1 @this ?_|exact uX1 @this
  ·repeat refine uA ?_
   refine⟨(_,i+1),⟨by omega,fun j hj'=>?_⟩,by simp only;omega,uKF⟩
   by_cases hji:j=i
   ·subst hji;exact e'
   ·exact hj j (by omega)
 ·refine awp_exit ?_
  repeat refine uA ?_
  (refine awp_ret (ret1 uRT ?_);try rfl)
  have:¬x∈l:=fun hm=>by
   obtain⟨j,hj',rfl⟩:=List.getElem_of_mem hm
   exact hj j (by omega) (by simp[hj'])
  first|refine uS1 @this ?_|exact uX1 @this
theorem list_ext {a b:List Int} (h:a.length=b.length) (h':∀j,j<a.length->a.getD j 0=b.getD j 0):a=b:=by
 refine List.ext_getElem h fun j h1 h2=>?_
 have:=h' j h1
 simpa[h1,h2] using this
theorem ints_sat (a b:List Int) (ha:a.length<=9223372036854775807):SatG Tryz.prog tab 21 [] [IS a,IS b] [] (B (decide (a=b))):=by
 refine uFN Tryz.func21 Tryz.ntmps21 ?_;intro w e X hC
 repeat refine uA ?_
 refine uW ?_;refine condP _ rfl (fun h=>?_) (fun h=>?_)
 ·repeat refine uA ?_
  (refine awp_ret (ret1 uRT ?_);try rfl)
  have:a≠b:=fun e=>h (by rw[e])
  first|refine uS1 @this ?_|exact uX1 @this
 ·repeat refine uA ?_
  have hab:a.length=b.length:=by omega
  refine uW ?_
  refine awp_loopW (fun i:Nat×Nat=>⟨[(0,IS a),(1,IS b),(5,I i.2)],[],i.1⟩) (fun i=>i.2<=a.length/\∀j,j<i.2->a.getD j 0=b.getD j 0) (fun i=>a.length - i.2) (_,0) ⟨Nat.zero_le _,fun j hj=>absurd hj (Nat.not_lt_zero _)⟩ (uKF) ?_
  rintro⟨ck,i⟩ ⟨hi,hj⟩
  simp only at hi hj
  repeat refine uA ?_
  refine uW ?_;refine condP _ rfl (fun h'=>?_) (fun h'=>?_)
  ·have hlt:i<a.length:=by omega
   have hlt':i<b.length:=by omega
   refine uK1 (uI (ints_getD hlt) (ints_getD hlt')) ?_
   refine uW ?_;refine condP _ rfl (fun e'=>?_) (fun e'=>?_)
   ·repeat refine uA ?_
    (refine awp_ret (ret1 uRT ?_);try rfl)
    have:a≠b:=fun e''=>e' (by rw[e''])
    first|refine uS1 @this ?_|exact uX1 @this
   ·repeat refine uA ?_
    refine⟨(_,i+1),⟨by omega,fun j hj'=>?_⟩,by simp only;omega,uKF⟩
    by_cases hji:j=i
    ·subst hji;exact Classical.not_not.1 e'
    ·exact hj j (by omega)
  ·refine awp_exit ?_
   repeat refine uA ?_
   (refine awp_ret (ret1 uRT ?_);try rfl)
   have:a=b:=list_ext hab fun j h1=>hj j (by omega)
   first|refine uS1 @this ?_|exact uX1 @this
abbrev srcC (l:List Int) (a:Nat):Hp:=srcB l (min a l.length)
theorem getD_min {l:List Int} {a:Nat}:l.getD (min a l.length) 0=l.getD a 0:=by
 have:=nxs_get (l:=l) (a:=a) (i:=0)
 simpa[nxs] using this
theorem min_nxs {l:List Int} {a:Nat}:nxs l (min a l.length) 1=min (a+1) l.length:=by unfold nxs;omega
def gN (l:List Int) (a:Nat) (n:Int):Int:=modI (l.getD a 0) n
def gR (l:List Int) (a:Nat) (lo hi:Int):Int:=lo+gN l a (hi - lo+1)
def gP (l:List Int) (a:Nat) (es:List Int):Int:=es.getD (gN l a es.length).toNat 0
theorem gN_lt {l:List Int} {a:Nat} {n:Int} (h:1<=n):0<=gN l a n/\gN l a n<n:=modI_lt h
theorem gN_sat (l:List Int) (a:Nat) (n:Int) (hf:Fits l) (hn:n<=9223372036854775807):SatG Tryz.prog tab 27 (srcC l a) [.ptO 0 0 0 0 0,I n] (srcC l (a+1)) (I (gN l a n)):=by
 have:=n_sat l (min a l.length) n hf (by omega) hn
 rwa[getD_min,min_nxs] at this
theorem gR_sat (l:List Int) (a:Nat) (lo hi:Int) (hf:Fits l) (h1:-1000000<=lo/\lo<=1000000) (h2:-1000000<=hi/\hi<=1000000) (h:lo<=hi):
  SatG Tryz.prog tab 36 (srcC l a) [.ptO 0 0 0 0 0,I lo,I hi] (srcC l (a+1)) (I (gR l a lo hi)):=by
 have:=range_sat l (min a l.length) lo hi hf (by omega) h1 h2 h
 rwa[getD_min,min_nxs] at this
theorem gP_sat (l:List Int) (a:Nat) (es:List Int) (hf:Fits l) (h0:0<es.length) (hn:es.length<=9223372036854775807):
  SatG Tryz.prog tab 43 (srcC l a) [.ptO 0 0 0 0 0,IS es] (srcC l (a+1)) (I (gP l a es)):=by
 have:=pick_sat l (min a l.length) es hf (by omega) h0 hn
 rwa[getD_min,min_nxs] at this
def rest (es:List Int) (x:Int):List Int:=es.filter fun y=>decide (y≠x)
def gO (l:List Int) (a:Nat) (es:List Int) (x:Int):Int×Nat:=
 if rest es x=[] then(-1,a) else((rest es x).getD (gN l a (rest es x).length).toNat 0,a+1)
theorem rest_succ {es:List Int} {x:Int} {i:Nat} (h:i<es.length):rest (es.take (i+1)) x=rest (es.take i) x++(if es.getD i 0≠x then[es.getD i 0] else[]):=by
 rw[List.take_add_one,List.getElem?_eq_getElem h,Option.toList_some,rest,List.filter_append,List.getD_eq_getElem?_getD,List.getElem?_eq_getElem h]
 simp only[List.filter_cons,List.filter_nil,Option.getD_some,rest]
 by_cases h:es[i]=x<;>simp[h]
theorem gO_sat (l:List Int) (a:Nat) (es:List Int) (x:Int) (hf:Fits l) (hn:es.length<=1000):
  SatG Tryz.prog tab 75 (srcC l a) [.ptO 0 0 0 0 0,IS es,I x] (srcC l (gO l a es x).2) (I (gO l a es x).1):=by
 refine uFN Tryz.func75 Tryz.ntmps75 ?_;intro w e X hC
 repeat refine uA ?_
 refine uW ?_
 refine awp_loopW (fun i:Nat×Nat=>⟨[(0, .ptO 0 0 0 0 0),(1,IS es),(2,I x),(7, .slO 107 2 0 (rest (es.take i.2) x).length),(8,I i.2)],(107,some (2, .own 3 1 (ints (rest (es.take i.2) x))))::srcC l a,i.1⟩) (fun i=>i.2<=es.length) (fun i=>es.length - i.2) (_,0) (Nat.zero_le _) (uKF) ?_
 rintro⟨ck,i⟩ hi
 simp only at hi
 repeat refine uA ?_
 refine uW ?_;refine condP _ rfl (fun h=>?_) (fun h=>?_)
 ·have hlt:i<es.length:=by omega
  repeat refine uA1 (ints_getD hlt) ?_
  have e1:=rest_succ (x:=x) hlt
  have hrl:(rest (es.take i) x).length<=es.length:=Nat.le_trans (List.length_filter_le _ _) (by simp;omega)
  refine uW ?_;refine condP _ rfl (fun e'=>?_) (fun e'=>?_)
  ·repeat refine uA1 (ints_getD hlt) ?_
   rw[if_pos e'] at e1
   refine⟨(_,i+1),by simp only;omega,by simp only;omega, .of (Nat.le_refl _) (.cons ?_ uHF) (.cons rfl (.cons rfl (.cons rfl (.cons ?_ uWF))))⟩
   ·first|refine uS1 @e1 ?_|exact uX1 @e1
   ·first|refine uS1 @e1 ?_|exact uX1 @e1
  ·rw[if_neg e',List.append_nil] at e1
   repeat refine uA ?_
   refine⟨(_,i+1),by simp only;omega,by simp only;omega, .of (Nat.le_refl _) (.cons ?_ uHF) (.cons rfl (.cons rfl (.cons rfl (.cons ?_ uWF))))⟩
   ·first|refine uS1 @e1 ?_|exact uX1 @e1
   ·first|refine uS1 @e1 ?_|exact uX1 @e1
 ·refine awp_exit ?_
  have hi':i=es.length:=by omega
  subst hi'
  rw[List.take_length]
  have hrl:(rest es x).length<=es.length:=List.length_filter_le _ _
  repeat refine uA ?_
  refine uW ?_;refine condP _ rfl (fun e'=>?_) (fun e'=>?_)
  ·repeat refine uA ?_
   have e1:rest es x=[]:=List.length_eq_zero_iff.1 (by omega)
   (refine awp_ret (retB1 rfl uTS uTS ?_ ?_);all_goals (first|refine uS ?_|exact uX|skip))
   ·simp only[gO,if_pos e1]
   ·simp only[gO,if_pos e1]
  ·have e1:¬rest es x=[]:=fun h=>e' (by rw[h];rfl)
   have e2:0<(rest es x).length:=by omega
   have hm:=gN_lt (l:=l) (a:=a) (n:=(rest es x).length) (by omega)
   repeat refine uA ?_
   refine uR ?_;intro K hK
   refine callL rfl ((gN_sat l a _ hf (by omega))) uTS uTS uTS uTS uTS ?_;refine uS ?_
   have e3:(gN l a (rest es x).length).toNat<(rest es x).length:=by omega
   first|refine uS1 (ints_getD e3) ?_|exact uX1 (ints_getD e3)
   refine⟨(by(repeat' apply And.intro)<;>first|omega|simp),e3,?_⟩
   refine hK _ ?_;clear hK K
   (refine awp_ret (retB1 rfl uTS uTS ?_ ?_);all_goals (first|refine uS ?_|exact uX|skip))
   ·simp only[gO,if_neg e1]
   ·simp only[gO,if_neg e1]
def gS (l:List Int) (a:Nat) (i z:Int) (kinds to:List Int):Nd×Nat:=
 let kd:=gP l a kinds
 let ln:=gR l (a+1) 1 3
 let f:=gO l (a+2) to (-1)
 if kd=5 then(⟨.empty,kd,ln+1,z,[i,f.1]⟩,f.2)
 else if kd=4 then
  let g:=gO l f.2 to f.1
  if g.1<0 then(⟨.empty,2,ln,z,[f.1]⟩,g.2) else(⟨.empty,kd,ln,z,[f.1,g.1]⟩,g.2)
 else(⟨.empty,kd,ln,z,[f.1]⟩,f.2)
theorem gR_lt {l:List Int} {a:Nat} {lo hi:Int} (h:lo<=hi):lo<=gR l a lo hi/\gR l a lo hi<=hi:=by
 have:=gN_lt (l:=l) (a:=a) (n:=hi - lo+1) (by omega)
 unfold gR;omega
theorem strip_sat (l:List Int) (a:Nat) (i z:Int) (kinds to:List Int) (hf:Fits l) (hk:0<kinds.length/\kinds.length<=1000) (hn:to.length<=1000):
  SatG Tryz.prog tab 41 (srcC l a) [.ptO 0 0 0 0 0,I i,I z,IS kinds,IS to] (srcC l (gS l a i z kinds to).2) (gS l a i z kinds to).1.av:=by
 have hr:=gR_lt (l:=l) (a:=a+1) (lo:=1) (hi:=3) (by omega)
 refine uFN Tryz.func41 Tryz.ntmps41 ?_;intro w e X hC
 repeat refine uA ?_
 refine uR ?_;intro K hK
 refine callL rfl ((gP_sat l a _ hf hk.1 (by omega))) uTS uTS uTS uTS uTS ?_;refine uS ?_
 refine callL rfl ((gR_sat l (a+1) 1 3 hf (by omega) (by omega) (by omega))) uTS uTS uTS uTS uTS ?_;refine uS ?_
 refine hK _ ?_;clear hK K
 refine uR ?_;intro K hK
 refine callL rfl ((gO_sat l (a+1+1) to (-1) hf hn)) uTS uTS uTS uTS uTS ?_;refine uS ?_
 refine hK _ ?_;clear hK K
 refine uR ?_;intro K hK
 refine hK _ ?_;clear hK K
 repeat refine uA ?_
 refine uW ?_;refine condP _ rfl (fun h=>?_) (fun h=>?_)
 ·repeat refine uA ?_
  refine awp_ret ?_;rw[show Tryz.f41.results.toList=[.cell 10 49] from rfl];(refine(retBs uRG rfl uTC uTC ?_ ?_);all_goals (first|refine uSC ?_|exact uXC|skip))
  ·simp only[gS,if_pos h];rfl
  ·simp only[gS,if_pos h]
 ·repeat refine uA ?_
  refine uW ?_;refine condP _ rfl (fun h2=>?_) (fun h2=>?_)
  ·repeat refine uA ?_
   refine uR ?_;intro K hK
   refine callL rfl ((gO_sat l (gO l (a+1+1) to (-1)).2 to (gO l (a+1+1) to (-1)).1 hf hn)) uTS uTS uTS uTS uTS ?_;refine uS ?_
   refine hK _ ?_;clear hK K
   repeat refine uA ?_
   refine uW ?_;refine condP _ rfl (fun h3=>?_) (fun h3=>?_)
   ·repeat refine uA ?_
    refine awp_ret ?_;rw[show Tryz.f41.results.toList=[.cell 10 49] from rfl];(refine(retBs uRG rfl uTC uTC ?_ ?_);all_goals (first|refine uSC ?_|exact uXC|skip))
    ·simp only[gS,if_neg h,if_pos h2,if_pos h3];rfl
    ·simp only[gS,if_neg h,if_pos h2,if_pos h3]
   ·repeat refine uA ?_
    refine awp_ret ?_;rw[show Tryz.f41.results.toList=[.cell 10 49] from rfl];(refine(retBs uRG rfl uTC uTC ?_ ?_);all_goals (first|refine uSC ?_|exact uXC|skip))
    ·simp only[gS,if_neg h,if_pos h2,if_neg h3];rfl
    ·simp only[gS,if_neg h,if_pos h2,if_neg h3]
  ·repeat refine uA ?_
   refine awp_ret ?_;rw[show Tryz.f41.results.toList=[.cell 10 49] from rfl];(refine(retBs uRG rfl uTC uTC ?_ ?_);all_goals (first|refine uSC ?_|exact uXC|skip))
   ·simp only[gS,if_neg h,if_neg h2];rfl
   ·simp only[gS,if_neg h,if_neg h2]
def dv1 (l:List Int) (x:Nd) (i w:Nat) (o:List T3×Nat):List T3×Nat:=
 if o.1.length<24 then(if gN l o.2 3=0\/((w:Int)=x.ln - 1/\x.kd=6) then(o.1++[⟨2,i,w⟩],o.2+1) else(o.1,o.2+1)) else o
def dv2 (l:List Int) (i w:Nat) (o:List T3×Nat):List T3×Nat:=
 if o.1.length<24 then(if gN l o.2 2=0 then(o.1++[⟨1,i,w⟩],o.2+1) else(o.1,o.2+1)) else o
def dvW (l:List Int) (x:Nd) (i:Nat) (o:List T3×Nat):Nat->List T3×Nat
 |0=>o
 |w+1=>dv2 l i w (dv1 l x i w (dvW l x i o w))
def dvN (l:List Int) (xs:List Nd) (a:Nat):Nat->List T3×Nat
 |0=>([],a)
 |i+1=>dvW l (xs.getD i default) i (dvN l xs a i) (xs.getD i default).ln.toNat
def gD (l:List Int) (a:Nat) (xs:List Nd):List T3×Nat:=dvN l xs a xs.length
theorem dv1_len {l:List Int} {x:Nd} {i w:Nat} {o:List T3×Nat} (h:o.1.length<=24):(dv1 l x i w o).1.length<=24:=by
 unfold dv1;split
 ·split<;>simp<;>omega
 ·exact h
theorem dv2_len {l:List Int} {i w:Nat} {o:List T3×Nat} (h:o.1.length<=24):(dv2 l i w o).1.length<=24:=by
 unfold dv2;split
 ·split<;>simp<;>omega
 ·exact h
theorem dvW_len {l:List Int} {x:Nd} {i:Nat} {o:List T3×Nat} (h:o.1.length<=24):∀w,(dvW l x i o w).1.length<=24
 |0=>h
 |w+1=>dv2_len (dv1_len (dvW_len h w))
theorem dvN_len {l:List Int} {xs:List Nd} {a:Nat}:∀i,(dvN l xs a i).1.length<=24
 |0=>by simp[dvN]
 |i+1=>dvW_len (dvN_len i) _
theorem devices_sat (l:List Int) (a:Nat) (xs:List Nd) (ds:List T3) (hf:Fits l) (hn:xs.length<=1000) (hx:∀i,i<xs.length->0<=(xs.getD i default).ln/\(xs.getD i default).ln<=1000):
  SatG Tryz.prog tab 42 (srcC l a) [.ptO 0 0 0 0 0,(Ly.mk xs ds).av] (srcC l (gD l a xs).2) (.sl (t3s (gD l a xs).1) false):=by
 refine uFN Tryz.func42 Tryz.ntmps42 ?_;intro w e X hC
 repeat refine uA ?_
 refine uW ?_
 refine awp_loopW (fun i:Nat×Nat=>⟨[(0, .ptO 0 0 0 0 0),(3, .ptO 103 1 0 0 0),(5, .slO 105 3 0 (dvN l xs a i.2).1.length),(6,I i.2)],(105,some (3, .own 104 3 (t3s (dvN l xs a i.2).1)))::(103,some (1, .box [.sl (nds xs) false, .sl (t3s ds) false]))::srcC l (dvN l xs a i.2).2,i.1⟩) (fun i=>i.2<=xs.length) (fun i=>xs.length - i.2) (_,0) (Nat.zero_le _) (uKF) ?_
 rintro⟨ck,i⟩ hi
 simp only at hi
 repeat refine uA ?_
 refine uW ?_;refine condP _ rfl (fun h=>?_) (fun h=>?_)
 ·have hlt:i<xs.length:=by omega
  have hxi:=hx i hlt
  repeat refine uA ?_
  refine uW ?_
  refine awp_loopW (fun j:Nat×Nat=>⟨[(0, .ptO 0 0 0 0 0),(3, .ptO 103 1 0 0 0),(5, .slO 105 3 0 (dvW l (xs.getD i default) i (dvN l xs a i) j.2).1.length),(6,I i),(7,I j.2)],(105,some (3, .own 104 3 (t3s (dvW l (xs.getD i default) i (dvN l xs a i) j.2).1)))::(103,some (1, .box [.sl (nds xs) false, .sl (t3s ds) false]))::srcC l (dvW l (xs.getD i default) i (dvN l xs a i) j.2).2,j.1⟩) (fun j=>j.2<=(xs.getD i default).ln.toNat) (fun j=>(xs.getD i default).ln.toNat - j.2) (_,0) (Nat.zero_le _) (uKF) ?_
  rintro⟨ck,j⟩ hj
  simp only at hj
  have hol:=dvW_len (l:=l) (x:=xs.getD i default) (i:=i) (dvN_len (l:=l) (xs:=xs) (a:=a) i) j
  have e1:dvW l (xs.getD i default) i (dvN l xs a i) (j+1)=dv2 l i j (dv1 l (xs.getD i default) i j (dvW l (xs.getD i default) i (dvN l xs a i) j)):=rfl
  generalize e4:dvW l (xs.getD i default) i (dvN l xs a i) j=o at*
  generalize hx0:xs.getD i default=x at*
  repeat refine uA1 (uI (nds_getD hlt) @hx0) ?_
  refine uW ?_;refine condP _ rfl (fun h2=>?_) (fun h2=>?_)
  ·have hjl:j<x.ln.toNat:=by omega
   refine uR1 (uI (nds_getD hlt) @hx0) ?_;intro K hK
   refine uH ?_;refine hK _ ?_;clear hK K
   refine awp_seq ?_
   refine awp_merge (fun q:Nat=>⟨[(0, .ptO 0 0 0 0 0),(3, .ptO 103 1 0 0 0),(5, .slO 105 3 0 (dv1 l x i j o).1.length),(6,I i),(7,I j)],(105,some (3, .own 104 3 (t3s (dv1 l x i j o).1)))::(103,some (1, .box [.sl (nds xs) false, .sl (t3s ds) false]))::srcC l (dv1 l x i j o).2,q⟩) (fun _=>True) ?_ ?_
   ·by_cases c1:o.1.length<24
    ·have d1:decide ((o.1.length:Int)<24)=true:=decide_eq_true (by omega)
     refine uR1 (uI (nds_getD hlt) (uI @hx0 @d1)) ?_;intro K hK
     refine callL rfl ((gN_sat l o.2 3 hf (by omega))) uTS uTS uTS uTS uTS ?_;refine uS ?_
     have push (e':gN l o.2 3=0\/((j:Int)=x.ln - 1/\x.kd=6)):dv1 l x i j o=(o.1++[⟨2,i,j⟩],o.2+1):=by rw[dv1,if_pos c1,if_pos e']
     have pass (e':¬(gN l o.2 3=0\/((j:Int)=x.ln - 1/\x.kd=6))):dv1 l x i j o=(o.1,o.2+1):=by rw[dv1,if_pos c1,if_neg e']
     by_cases c2:gN l o.2 3=0
     ·have d2:decide (gN l o.2 3=0)=true:=decide_eq_true c2
      first|refine uS1 @d2 ?_|exact uX1 @d2
      refine hK _ ?_;clear hK K
      refine uT ?_
      repeat refine uA1 @t3s_snoc ?_
      rw[push (.inl c2)]
      refine⟨_,trivial,uKF⟩
     ·have d2:decide (gN l o.2 3=0)=false:=decide_eq_false c2
      first|refine uS1 @d2 ?_|exact uX1 @d2
      by_cases c3:(j:Int)=x.ln - 1
      ·have d3:decide ((j:Int)=x.ln - 1)=true:=decide_eq_true c3
       first|refine uS1 (uI @d3 (uI (nds_getD hlt) @hx0)) ?_|exact uX1 (uI @d3 (uI (nds_getD hlt) @hx0))
       refine⟨(by(repeat' apply And.intro)<;>first|omega|simp),?_⟩
       by_cases c4:x.kd=6
       ·have d4:decide (x.kd=6)=true:=decide_eq_true c4
        refine hK _ ?_;clear hK K
        simp only[d4]
        refine uT ?_
        repeat refine uA1 @t3s_snoc ?_
        rw[push (.inr ⟨c3,c4⟩)]
        refine⟨_,trivial,uKF⟩
       ·have d4:decide (x.kd=6)=false:=decide_eq_false c4
        refine hK _ ?_;clear hK K
        simp only[d4]
        refine uF ?_
        rw[pass (fun h=>h.elim c2 (fun h=>c4 h.2))]
        refine awp_skip ⟨_,trivial,uKF⟩
      ·have d3:decide ((j:Int)=x.ln - 1)=false:=decide_eq_false c3
       first|refine uS1 @d3 ?_|exact uX1 @d3
       refine hK _ ?_;clear hK K
       refine uF ?_
       rw[pass (fun h=>h.elim c2 (fun h=>c3 h.1))]
       refine awp_skip ⟨_,trivial,uKF⟩
    ·have d1:decide ((o.1.length:Int)<24)=false:=decide_eq_false (by omega)
     refine uR1 (uI (nds_getD hlt) (uI @hx0 @d1)) ?_;intro K hK
     refine hK _ ?_;clear hK K
     refine uF ?_
     rw[show dv1 l x i j o=o by rw[dv1,if_neg c1]]
     refine awp_skip ⟨_,trivial,uKF⟩
   ·intro ck _
    have hol1:(dv1 l x i j o).1.length<=24:=dv1_len hol
    generalize dv1 l x i j o=o1 at*
    by_cases c1:o1.1.length<24
    ·have d1:decide ((o1.1.length:Int)<24)=true:=decide_eq_true (by omega)
     refine uR1 @d1 ?_;intro K hK
     refine callL rfl ((gN_sat l o1.2 2 hf (by omega))) uTS uTS uTS uTS uTS ?_;refine uS ?_
     refine hK _ ?_;clear hK K
     refine uW ?_;refine condP _ rfl (fun c2=>?_) (fun c2=>?_)
     ·repeat refine uA1 @t3s_snoc ?_
      have e2:dv2 l i j o1=(o1.1++[⟨1,i,j⟩],o1.2+1):=by rw[dv2,if_pos c1,if_pos c2]
      refine⟨(_,j+1),by simp only;omega,by simp only;omega, .of (Nat.le_refl _) (uHF1 (uI @e1 @e2)) (uWF1 (uI @e1 @e2))⟩
     ·repeat refine uA ?_
      have e2:dv2 l i j o1=(o1.1,o1.2+1):=by rw[dv2,if_pos c1,if_neg c2]
      refine⟨(_,j+1),by simp only;omega,by simp only;omega, .of (Nat.le_refl _) (uHF1 (uI @e1 @e2)) (uWF1 (uI @e1 @e2))⟩
    ·have d1:decide ((o1.1.length:Int)<24)=false:=decide_eq_false (by omega)
     refine uR1 @d1 ?_;intro K hK
     refine hK _ ?_;clear hK K
     refine uF ?_
     have e2:dv2 l i j o1=o1:=by rw[dv2,if_neg c1]
     repeat refine uA ?_
     refine⟨(_,j+1),by simp only;omega,by simp only;omega, .of (Nat.le_refl _) (uHF1 (uI @e1 @e2)) (uWF1 (uI @e1 @e2))⟩
  ·refine awp_exit ?_
   have hj':j=x.ln.toNat:=by omega
   have e3:dvN l xs a (i+1)=dvW l x i (dvN l xs a i) j:=by rw[hj',<-hx0];rfl
   repeat refine uA ?_
   refine⟨(_,i+1),by simp only;omega,by simp only;omega, .of (Nat.le_refl _) (uHF1 (uI @e3 @e4)) (uWF1 (uI @e3 @e4))⟩
 ·refine awp_exit ?_
  have hi':i=xs.length:=by omega
  subst hi'
  repeat refine uA ?_
  (refine awp_ret (retB1 rfl uTS uTS ?_ ?_);all_goals (first|refine uS ?_|exact uX|skip))
  ·rfl
  ·rfl
def upI (lo:Nat):Nat->List Int
 |0=>[]
 |k+1=>upI lo k++[((lo+k:Nat):Int)]
theorem upI_length (lo:Nat):∀k,(upI lo k).length=k
 |0=>rfl
 |k+1=>by rw[upI,List.length_append,upI_length lo k];rfl
def nmI (i:Nat):ByteArray:=strOf [UInt8.ofNat (65+i)]
def zeroI (A n i:Nat):List Int:=upI (i+1) (A - i)++[((n - 2:Nat):Int)]
def oneI (A n i:Nat):List Int:=upI (max i A+1) (n - 2 - (max i A+1))++[((n - 1:Nat):Int)]
def lyX (l:List Int) (A B n i a:Nat):Nd×Nat:=
 if i=0 then gS l a i 0 [1] (zeroI A n i)
 else if i<A then gS l a i 0 [2,3,4,5,3] (zeroI A n i)
 else if i=A then(⟨.empty,6,gR l a 1 3,0,[((n - 2:Nat):Int),gP l (a+1) (oneI A n i)]⟩,a+2)
 else if i<A+1+B then
  let x:=gS l a i 1 [2,4,5,7] (oneI A n i)
  if x.1.kd=7 then({x.1 with ln:=0},x.2) else x
 else if i<n - 2 then(⟨.empty,8,0,1,[]⟩,a)
 else(⟨.empty,9,0,((i - (n - 2):Nat):Int),[]⟩,a)
def lyL (l:List Int) (A B n a:Nat):Nat->List Nd×Nat
 |0=>([],a)
 |i+1=>((lyL l A B n a i).1++[{(lyX l A B n i (lyL l A B n a i).2).1 with nm:=nmI i}],(lyX l A B n i (lyL l A B n a i).2).2)
def mixN (x:Nd×Bool):AV:= .agg [S x.1.nm,I x.1.kd,I x.1.ln,I x.1.zn,if x.2 then .kid 3 1 (ints x.1.ex) else IS x.1.ex]
def mixes (l:List (Nd×Bool)):List AV:=l.map mixN
def fixX (i:Nat) (x:Nd):Nd:={x with ex:=((i+1:Nat):Int)::x.ex.drop 1}
def mixL (xs:List Nd):Nat->List (Nd×Bool)
 |0=>xs.map fun x=>(x,false)
 |i+1=>if(xs.getD i default).kd≠5/\((i+1:Nat):Int)∉(xs.getD i default).ex then(mixL xs i).set i (fixX i (xs.getD i default),true) else mixL xs i
def fixL (xs:List Nd) (i:Nat):List Nd:=(mixL xs i).map (·.1)
theorem mixes_length (l:List (Nd×Bool)):(mixes l).length=l.length:=by simp[mixes]
theorem mixL_length (xs:List Nd):∀i,(mixL xs i).length=xs.length
 |0=>by simp[mixL]
 |i+1=>by rw[mixL];split<;>simp[mixL_length xs i]
theorem mixL_getD {xs:List Nd} {j:Nat}:∀i,i<=j->j<xs.length->(mixes (mixL xs i)).getD j .bad=(xs.getD j default).av
 |0,_,h=>by simp[mixes,mixL,h,mixN]
 |i+1,h,hj=>by
  rw[mixL]
  split
  ·have:=mixL_getD i (by omega) hj
   rw[mixes,List.map_set,List.getD_eq_getElem?_getD,List.getElem?_set_ne (by omega),<-List.getD_eq_getElem?_getD]
   exact this
  ·exact mixL_getD i (by omega) hj
theorem mixes_nds (xs:List Nd):nds xs=mixes (xs.map fun x=>(x,false)):=by simp[nds,mixes,mixN]
theorem mixes_set {l:List (Nd×Bool)} {i:Nat} {nm:ByteArray} {kd ln zn:Int} {ex:List Int}:
  (mixes l).set i (.agg [.lit (.string nm), .lit (.int .i64 kd), .lit (.int .i64 ln), .lit (.int .i64 zn), .kid 3 1 (ints ex)])=mixes (l.set i (⟨nm,kd,ln,zn,ex⟩,true)):=by
 simp[mixes,List.map_set,mixN]
theorem fz_lit (n:Nat) (hp:Hp) (v:Value):fz n hp (.lit v)= .lit v:=by cases n<;>rfl
theorem fz_sl (n:Nat) (hp:Hp) (es:List AV) (b:Bool):fz n hp (.sl es b)= .sl es false:=by cases n<;>rfl
theorem fz_kid (n:Nat) (hp:Hp) (t k:Nat) (es:List AV):fz n hp (.kid t k es)= .sl es false:=by cases n<;>rfl
theorem mixes_fz (l:List (Nd×Bool)) (n:Nat) (hp:Hp):(mixes l).map (mapc (fz n hp))=nds (l.map (·.1)):=by
 simp only[mixes,nds,List.map_map]
 refine List.map_congr_left fun x _=>?_
 obtain⟨x,b⟩:=x
 cases b<;>simp[mixN,mapc,fz_lit,fz_sl,fz_kid]
theorem mixes_fzP (l:List (Nd×Bool)) (n:Nat) (hp:Hp):(∀e∈mixes l,∀c∈e.cells,fzP n hp c)=True:=by
 refine eq_true fun e he c hc=>?_
 obtain⟨x,_,rfl⟩:=List.mem_map.1 he
 obtain⟨x,b⟩:=x
 simp only[mixN,AV.cells,List.mem_cons,List.not_mem_nil,or_false] at hc
 rcases hc with rfl|rfl|rfl|rfl|rfl<;>cases n<;>first|trivial|(cases b<;>trivial)
theorem mixes_fzR (l:List (Nd×Bool)) (n:Nat) (hp:Hp):((mixes l).flatMap fun e=>e.cells.flatMap (fzR n hp))=[]:=by
 refine fm_nil fun e he=>fm_nil fun c hc=>?_
 obtain⟨x,_,rfl⟩:=List.mem_map.1 he
 obtain⟨x,b⟩:=x
 simp only[mixN,AV.cells,List.mem_cons,List.not_mem_nil,or_false] at hc
 rcases hc with rfl|rfl|rfl|rfl|rfl<;>cases n<;>first|rfl|(cases b<;>rfl)
def gL (l:List Int) (a:Nat):Ly×Nat:=
 let A:=(gR l a 1 3).toNat
 let B:=(gR l (a+1) 0 3).toNat
 let n:=A+1+B+(gR l (a+2) 1 2).toNat+2
 let r:=lyL l A B n (a+3) n
 let xs:=if 0<gN l r.2 4 then fixL r.1 A else r.1
 (⟨xs,(gD l (r.2+1) xs).1⟩,(gD l (r.2+1) xs).2)
theorem lyL_length (l:List Int) (A B n a:Nat):∀i,(lyL l A B n a i).1.length=i
 |0=>rfl
 |i+1=>by rw[lyL,List.length_append,lyL_length l A B n a i];rfl
theorem gS_ex {l:List Int} {a:Nat} {i z:Int} {kinds to:List Int}:1<=(gS l a i z kinds to).1.ex.length/\(gS l a i z kinds to).1.ex.length<=2:=by
 unfold gS
 simp only
 split
 ·simp
 ·split
  ·split<;>simp
  ·simp
theorem lyL_getD {l:List Int} {A B n a j:Nat}:∀i,j<i->(lyL l A B n a i).1.getD j default={(lyX l A B n j (lyL l A B n a j).2).1 with nm:=nmI j}
 |0,h=>absurd h (Nat.not_lt_zero _)
 |i+1,h=>by
  have hl:=lyL_length l A B n a i
  rw[lyL]
  by_cases hj:j=i
  ·subst hj
   simp only[List.getD_eq_getElem?_getD]
   rw[List.getElem?_append_right (by omega),hl]
   simp
  ·have ih:=lyL_getD (l:=l) (A:=A) (B:=B) (n:=n) (a:=a) (j:=j) i (by omega)
   rw[List.getD_eq_getElem?_getD] at ih ⊢
   rw[List.getElem?_append_left (by omega)]
   exact ih
theorem lyL_ex {l:List Int} {A B n a i j:Nat} (h:j<i) (hA:0<A) (hj:j<A):1<=((lyL l A B n a i).1.getD j default).ex.length/\((lyL l A B n a i).1.getD j default).ex.length<=2:=by
 rw[lyL_getD i h]
 simp only[lyX]
 by_cases h0:j=0
 ·rw[if_pos h0];exact gS_ex
 ·rw[if_neg h0,if_pos hj];exact gS_ex
def fixN (k:Nat) (x:Nd):Nd:=if x.kd≠5/\((k+1:Nat):Int)∉x.ex then fixX k x else x
theorem fixN_ln {k:Nat} {x:Nd}:(fixN k x).ln=x.ln/\(fixN k x).kd=x.kd/\(fixN k x).zn=x.zn/\(fixN k x).nm=x.nm:=by
 unfold fixN;split<;>exact⟨rfl,rfl,rfl,rfl⟩
theorem fixL_length {xs:List Nd} {i:Nat}:(fixL xs i).length=xs.length:=by rw[fixL,List.length_map,mixL_length]
theorem fixL_getD {xs:List Nd} {k:Nat} (hk:k<xs.length):∀i,(fixL xs i).getD k default=if k<i then fixN k (xs.getD k default) else xs.getD k default
 |0=>by
  rw[if_neg (by omega),fixL,mixL,List.map_map]
  exact congrArg (fun l=>List.getD l k default) (List.map_id' xs)
 |i+1=>by
  have ih:=fixL_getD hk i
  have e:fixL xs (i+1)=if(xs.getD i default).kd≠5/\((i+1:Nat):Int)∉(xs.getD i default).ex then(fixL xs i).set i (fixX i (xs.getD i default)) else fixL xs i:=by
   rw[fixL,mixL]
   split
   ·rw[List.map_set];rfl
   ·rfl
  rw[e]
  by_cases hki:k=i
  ·subst hki
   rw[if_neg (Nat.lt_irrefl k)] at ih
   rw[if_pos (Nat.lt_succ_self k),fixN]
   split
   ·have hlt:k<(fixL xs k).length:=by rw[fixL_length];exact hk
    rw[List.getD_eq_getElem?_getD,List.getElem?_set_self hlt];rfl
   ·exact ih
  ·have hs:(if k<i+1 then fixN k (xs.getD k default) else xs.getD k default)=if k<i then fixN k (xs.getD k default) else xs.getD k default:=by
    by_cases h:k<i
    ·rw[if_pos h,if_pos (by omega)]
    ·rw[if_neg h,if_neg (by omega)]
   rw[hs,<-ih]
   split
   ·rw[List.getD_eq_getElem?_getD,List.getElem?_set_ne (fun h=>hki h.symm),<-List.getD_eq_getElem?_getD]
   ·rfl
theorem gS_ln {l:List Int} {a:Nat} {i z:Int} {kinds to:List Int}:1<=(gS l a i z kinds to).1.ln/\(gS l a i z kinds to).1.ln<=4:=by
 have:=gR_lt (l:=l) (a:=a+1) (lo:=1) (hi:=3) (by omega)
 unfold gS
 simp only
 split
 ·simp only;omega
 ·split
  ·split<;>(simp only;omega)
  ·simp only;omega
theorem lyX_ln {l:List Int} {A B n i a:Nat}:0<=(lyX l A B n i a).1.ln/\(lyX l A B n i a).1.ln<=4:=by
 have:=gR_lt (l:=l) (a:=a) (lo:=1) (hi:=3) (by omega)
 have h2 (z kinds to):=gS_ln (l:=l) (a:=a) (i:=(i:Int)) (z:=z) (kinds:=kinds) (to:=to)
 unfold lyX
 split
 ·have:=h2 0 [1] (zeroI A n i);omega
 ·split
  ·have:=h2 0 [2,3,4,5,3] (zeroI A n i);omega
  ·split
   ·simp only;omega
   ·split
    ·have:=h2 1 [2,4,5,7] (oneI A n i)
     simp only
     split
     ·simp
     ·omega
    ·split<;>simp
theorem lyL_ln {l:List Int} {A B n a i j:Nat} (h:j<i):0<=((lyL l A B n a i).1.getD j default).ln/\((lyL l A B n a i).1.getD j default).ln<=4:=by
 rw[lyL_getD i h];exact lyX_ln
theorem layout_sat (l:List Int) (a:Nat) (hf:Fits l):
  SatG Tryz.prog tab 12 (srcC l a) [.ptO 0 0 0 0 0] (srcC l (gL l a).2) (gL l a).1.av:=by
 obtain⟨hA1,hA2⟩:=gR_lt (l:=l) (a:=a) (lo:=1) (hi:=3) (by omega)
 obtain⟨hB1,hB2⟩:=gR_lt (l:=l) (a:=a+1) (lo:=0) (hi:=3) (by omega)
 obtain⟨hC1,hC2⟩:=gR_lt (l:=l) (a:=a+2) (lo:=1) (hi:=2) (by omega)
 have sA:=gR_sat l a 1 3 hf (by omega) (by omega) (by omega)
 have sB:=gR_sat l (a+1) 0 3 hf (by omega) (by omega) (by omega)
 have sC:=gR_sat l (a+2) 1 2 hf (by omega) (by omega) (by omega)
 unfold gL
 obtain⟨A,hA⟩:∃A:Nat,gR l a 1 3=A:=⟨(gR l a 1 3).toNat,by omega⟩
 obtain⟨B,hB⟩:∃A:Nat,gR l (a+1) 0 3=A:=⟨(gR l (a+1) 0 3).toNat,by omega⟩
 obtain⟨D,hD⟩:∃A:Nat,gR l (a+2) 1 2=A:=⟨(gR l (a+2) 1 2).toNat,by omega⟩
 have hA3:1<=A/\A<=3:=by omega
 have hB3:B<=3:=by omega
 have hD3:1<=D/\D<=2:=by omega
 simp only[hA,hB,hD,Int.toNat_natCast]
 refine uFN Tryz.func12 Tryz.ntmps12 ?_;intro w e X hC
 repeat refine uA ?_
 refine uR ?_;intro K hK
 refine callL rfl (sA) uTS uTS uTS uTS uTS ?_;refine uS ?_
 refine callL rfl (sB) uTS uTS uTS uTS uTS ?_;refine uS ?_
 refine callL rfl (sC) uTS uTS uTS uTS uTS ?_;refine uS ?_
 refine hK _ ?_;clear hK K
 repeat refine uA ?_
 obtain⟨n,hn⟩:∃n,n=A+1+B+D+2:=⟨_,rfl⟩
 rw[<-hn]
 have hn1:(A:Int)+1+B+D+2=n:=by omega
 have hn2:(n:Int) - 2=((n - 2:Nat):Int):=by omega
 have hn3:A+4<=n/\n<=11:=by omega
 refine uW ?_
 refine awp_loopW (fun i:Nat×Nat×Nat=>⟨[(0, .ptO 0 0 0 0 0),(2, .ptO 102 1 0 0 0),(3,I A),(4,I B),(6,I n),(7,I A),(8,I (n - 2:Nat)),(9, .ptO 109 24 0 0 0),(10,I i.2.1)],
  (109,some (24, .box [nilC i.2.1 (.slO 239 i.2.2 0 i.2.1), .sl [] true]))::(239,nilH i.2.1 (i.2.2, .own 49 5 (nds (lyL l A B n (a+3) i.2.1).1)))::(102,some (1, .box [.sl [] true, .sl [] true]))::srcC l (lyL l A B n (a+3) i.2.1).2,i.1⟩)
  (fun i=>i.2.1<=n) (fun i=>n - i.2.1) (_,0,0) (Nat.zero_le _) (.of (Nat.le_refl _) uHF (uWF1 (uI @hA (uI @hB (uI (show a+1+1=a+2 from rfl) (uI @hD (uI @hn1 @hn2))))))) ?_
 rintro⟨ck,i,g⟩ hi
 simp only at hi
 repeat refine uA ?_
 refine uW ?_;refine condP _ rfl (fun h=>?_) (fun h=>?_)
 ·repeat refine uA ?_
  generalize e1:(lyL l A B n (a+3) i).1=xs
  generalize e2:(lyL l A B n (a+3) i).2=a'
  refine uW ?_
  refine awp_loopW (fun j:Nat×Nat=>⟨[(0, .ptO 0 0 0 0 0),(2, .ptO 102 1 0 0 0),(3,I A),(4,I B),(6,I n),(7,I A),(8,I (n - 2:Nat)),(9, .ptO 109 24 0 0 0),(10,I i),(11, .slO 111 (ck+3) 0 j.2),(12, .slO 112 (ck+4) 0 0),(13,I (i+1+j.2:Nat))],
   (111,some (ck+3, .own 3 1 (ints (upI (i+1) j.2))))::(112,some (ck+4, .own 3 1 []))::(109,some (24, .box [nilC i (.slO 239 g 0 i), .sl [] true]))::(239,nilH i (g, .own 49 5 (nds xs)))::(102,some (1, .box [.sl [] true, .sl [] true]))::srcC l a',j.1⟩) (fun j=>j.2<=A - i) (fun j=>A - i - j.2) (_,0) (Nat.zero_le _) (uKF) ?_
  rintro⟨ck2,j⟩ hj
  simp only at hj
  repeat refine uA ?_
  refine uW ?_;refine condP _ rfl (fun h2=>?_) (fun h2=>?_)
  ·have hul:=upI_length (i+1) j
   repeat refine uA ?_
   refine⟨(_,j+1),by simp only;omega,by simp only;omega, .of (Nat.le_refl _) (by repeat first|exact HOk.nil|refine uHN ?_|(refine HOk.cons ?_ ?_;(focus (simp only[go_sem,Nat.reduceAdd,Nat.reduceSub,Nat.reduceMul,Nat.reduceLT,Nat.reduceEqDiff,Nat.reduceBEq,Nat.reduceLeDiff,Int.reduceToNat,↓reduceIte,Int.reduceEq,Int.reduceLT,Int.reduceLE,Int.reduceAdd,Int.reduceSub,Int.reduceNeg,reduceCtorEq,upI];done)))) (by repeat first|exact WOk.nil|refine uWN ?_|(refine WOk.cons ?_ ?_;(focus (simp only[go_sem,Nat.reduceAdd,Nat.reduceSub,Nat.reduceMul,Nat.reduceLT,Nat.reduceEqDiff,Nat.reduceBEq,Nat.reduceLeDiff,Int.reduceToNat,↓reduceIte,Int.reduceEq,Int.reduceLT,Int.reduceLE,Int.reduceAdd,Int.reduceSub,Int.reduceNeg,reduceCtorEq];done))))⟩
  ·refine awp_exit ?_
   have hj':j=A - i:=by omega
   subst hj'
   have hul:=upI_length (i+1) (A - i)
   repeat refine uA ?_
   have hm:(if(i:Int)<A then(A:Int) else i)+1=((max i A+1:Nat):Int):=by split<;>omega
   have hzl:(zeroI A n i).length=A - i+1:=by rw[zeroI,List.length_append,hul];rfl
   refine uW ?_
   refine awp_loopW (fun j:Nat×Nat=>⟨[(0, .ptO 0 0 0 0 0),(2, .ptO 102 1 0 0 0),(3,I A),(4,I B),(6,I n),(7,I A),(8,I (n - 2:Nat)),(9, .ptO 109 24 0 0 0),(10,I i),(11, .slO 111 (ck+3) 0 (A - i+1)),(12, .slO 112 (ck+4) 0 j.2),(14,I (max i A+1+j.2:Nat))],
    (111,some (ck+3, .own 3 1 (ints (zeroI A n i))))::(112,some (ck+4, .own 3 1 (ints (upI (max i A+1) j.2))))::(109,some (24, .box [nilC i (.slO 239 g 0 i), .sl [] true]))::(239,nilH i (g, .own 49 5 (nds xs)))::(102,some (1, .box [.sl [] true, .sl [] true]))::srcC l a',j.1⟩) (fun j=>j.2<=n - 2 - (max i A+1)) (fun j=>n - 2 - (max i A+1) - j.2) (_,0) (Nat.zero_le _) (.of (Nat.le_refl _) uHF (uWF1 @hm)) ?_
   rintro⟨ck3,j⟩ hj
   simp only at hj
   repeat refine uA ?_
   refine uW ?_;refine condP _ rfl (fun h3=>?_) (fun h3=>?_)
   ·have hul:=upI_length (max i A+1) j
    repeat refine uA ?_
    refine⟨(_,j+1),by simp only;omega,by simp only;omega, .of (Nat.le_refl _) (by repeat first|exact HOk.nil|refine uHN ?_|(refine HOk.cons ?_ ?_;(focus (simp only[go_sem,Nat.reduceAdd,Nat.reduceSub,Nat.reduceMul,Nat.reduceLT,Nat.reduceEqDiff,Nat.reduceBEq,Nat.reduceLeDiff,Int.reduceToNat,↓reduceIte,Int.reduceEq,Int.reduceLT,Int.reduceLE,Int.reduceAdd,Int.reduceSub,Int.reduceNeg,reduceCtorEq,upI];done)))) (by repeat first|exact WOk.nil|refine uWN ?_|(refine WOk.cons ?_ ?_;(focus (simp only[go_sem,Nat.reduceAdd,Nat.reduceSub,Nat.reduceMul,Nat.reduceLT,Nat.reduceEqDiff,Nat.reduceBEq,Nat.reduceLeDiff,Int.reduceToNat,↓reduceIte,Int.reduceEq,Int.reduceLT,Int.reduceLE,Int.reduceAdd,Int.reduceSub,Int.reduceNeg,reduceCtorEq];done))))⟩
   ·refine awp_exit ?_
    have hj':j=n - 2 - (max i A+1):=by omega
    subst hj'
    have hul:=upI_length (max i A+1) (n - 2 - (max i A+1))
    have hol:(oneI A n i).length=n - 2 - (max i A+1)+1:=by rw[oneI,List.length_append,hul];rfl
    have hn4:(n:Int) - 1=((n - 1:Nat):Int):=by omega
    refine uR1 @hn4 ?_;intro K hK
    refine uH ?_;refine hK _ ?_;clear hK K
    refine uR ?_;intro K hK
    refine uH ?_;refine hK _ ?_;clear hK K
    refine awp_weak (s':=⟨[(0, .ptO 0 0 0 0 0),(2, .ptO 102 1 0 0 0),(3,I A),(4,I B),(6,I n),(7,I A),(8,I (n - 2:Nat)),(9, .ptO 109 24 0 0 0),(10,I i),(11,IS (zeroI A n i)),(12,IS (oneI A n i)),(15, .ptO 115 (ck3+9) 0 0 0)],(115,some (ck3+9, .box [S .empty,I 0,I 0,I 0, .sl [] true]))::(109,some (24, .box [nilC i (.slO 239 g 0 i), .sl [] true]))::(239,nilH i (g, .own 49 5 (nds xs)))::(102,some (1, .box [.sl [] true, .sl [] true]))::srcC l a',_⟩) (.of (Nat.le_refl _) uHF (uWF1 (uI @hzl @hol))) ?_
    refine awp_seq ?_
    refine awp_merge (fun q:Nat×Nat=>⟨[(0, .ptO 0 0 0 0 0),(2, .ptO 102 1 0 0 0),(3,I A),(4,I B),(6,I n),(7,I A),(8,I (n - 2:Nat)),(9, .ptO 109 24 0 0 0),(10,I i),(15, .ptO 115 q.2 0 0 0)],(115,some (q.2, .box [S (lyX l A B n i a').1.nm,I (lyX l A B n i a').1.kd,I (lyX l A B n i a').1.ln,I (lyX l A B n i a').1.zn,IS (lyX l A B n i a').1.ex]))::(109,some (24, .box [nilC i (.slO 239 g 0 i), .sl [] true]))::(239,nilH i (g, .own 49 5 (nds xs)))::(102,some (1, .box [.sl [] true, .sl [] true]))::srcC l (lyX l A B n i a').2,q.1⟩) (fun _=>True) ?_ ?_
    ·repeat refine uA ?_
     refine uW ?_;refine condP _ rfl (fun c1=>?_) (fun c1=>?_)
     ·refine uR ?_;intro K hK
      refine callL rfl ((strip_sat l a' i 0 [1] (zeroI A n i) hf ⟨by decide,by decide⟩ (by omega))) uTS uTS uTS uTS uTS ?_;refine uS ?_
      refine hK _ ?_;clear hK K
      have e3:lyX l A B n i a'=gS l a' i 0 [1] (zeroI A n i):=if_pos (by omega)
      simp only[e3]
      refine uW ?_
      refine⟨(_,_),trivial,uKF⟩
     ·have c1':¬i=0:=by omega
      repeat refine uA ?_
      refine uW ?_;refine condP _ rfl (fun c2=>?_) (fun c2=>?_)
      ·refine uR ?_;intro K hK
       refine callL rfl ((strip_sat l a' i 0 [2,3,4,5,3] (zeroI A n i) hf ⟨by decide,by decide⟩ (by omega))) uTS uTS uTS uTS uTS ?_;refine uS ?_
       refine hK _ ?_;clear hK K
       have e3:lyX l A B n i a'=gS l a' i 0 [2,3,4,5,3] (zeroI A n i):=by rw[lyX,if_neg c1',if_pos (by omega)]
       simp only[e3]
       refine uW ?_
       refine⟨(_,_),trivial,uKF⟩
      ·have c2':¬i<A:=by omega
       repeat refine uA ?_
       refine uW ?_;refine condP _ rfl (fun c3=>?_) (fun c3=>?_)
       ·have c3':i=A:=by omega
        refine uR ?_;intro K hK
        refine callL rfl ((gR_sat l a' 1 3 hf (by omega) (by omega) (by omega))) uTS uTS uTS uTS uTS ?_;refine uS ?_
        have hm0:1<=(oneI A n i).length:=by omega
        have hm1:=gN_lt (l:=l) (a:=a'+1) (n:=(oneI A n i).length) (by omega)
        refine callL rfl ((gN_sat l (a'+1) _ hf (by omega))) uTS uTS uTS uTS uTS ?_;refine uS ?_
        have hm2:(gN l (a'+1) (oneI A n i).length).toNat<(oneI A n i).length:=by omega
        first|refine uS1 (ints_getD hm2) ?_|exact uX1 (ints_getD hm2)
        refine⟨(by(repeat' apply And.intro)<;>first|omega|simp),?_⟩
        refine hK _ ?_;clear hK K
        have e3:lyX l A B n i a'=(⟨.empty,6,gR l a' 1 3,0,[((n - 2:Nat):Int),gP l (a'+1) (oneI A n i)]⟩,a'+2):=by rw[lyX,if_neg c1',if_neg c2',if_pos c3']
        simp only[e3]
        refine uW ?_
        refine⟨(_,_),trivial,uKF⟩
       ·repeat refine uA ?_
        refine uW ?_;refine condP _ rfl (fun c4=>?_) (fun c4=>?_)
        ·have c3':¬i=A:=by omega
         have e3:lyX l A B n i a'=if(gS l a' i 1 [2,4,5,7] (oneI A n i)).1.kd=7 then({(gS l a' i 1 [2,4,5,7] (oneI A n i)).1 with ln:=0},(gS l a' i 1 [2,4,5,7] (oneI A n i)).2) else gS l a' i 1 [2,4,5,7] (oneI A n i):=by rw[lyX,if_neg c1',if_neg c2',if_neg c3',if_pos (by omega)]
         refine uR ?_;intro K hK
         refine callL rfl ((strip_sat l a' i 1 [2,4,5,7] (oneI A n i) hf ⟨by decide,by decide⟩ (by omega))) uTS uTS uTS uTS uTS ?_;refine uS ?_
         refine hK _ ?_;clear hK K
         repeat refine uA ?_
         refine uW ?_;refine condP _ rfl (fun c5=>?_) (fun c5=>?_)
         ·repeat refine uA ?_
          rw[if_pos c5] at e3
          simp only[e3]
          refine⟨(_,_),trivial,uKF⟩
         ·refine uW ?_
          rw[if_neg c5] at e3
          simp only[e3]
          refine⟨(_,_),trivial,uKF⟩
        ·have c3':¬i=A:=by omega
         have c4':¬i<A+1+B:=by omega
         repeat refine uA ?_
         refine uW ?_;refine condP _ rfl (fun c5=>?_) (fun c5=>?_)
         ·have e3:lyX l A B n i a'=(⟨.empty,8,0,1,[]⟩,a'):=by rw[lyX,if_neg c1',if_neg c2',if_neg c3',if_neg c4',if_pos (by omega)]
          repeat refine uA ?_
          simp only[e3]
          refine⟨(_,_),trivial,uKF⟩
         ·have e3:lyX l A B n i a'=(⟨.empty,9,0,((i - (n - 2):Nat):Int),[]⟩,a'):=by rw[lyX,if_neg c1',if_neg c2',if_neg c3',if_neg c4',if_neg (by omega)]
          have e5:(i:Int) - ((n - 2:Nat):Int)=((i - (n - 2):Nat):Int):=by omega
          repeat refine uA ?_
          repeat refine uA ?_
          simp only[e3]
          refine⟨(_,_),trivial, .of (Nat.le_refl _) (uHF1 @e5) uWF⟩
    ·rintro⟨ck4,gx⟩ _
     generalize e6:lyX l A B n i a'=x
     simp only
     repeat refine uA ?_
     have hb:bytesOf [.lit (.int .u8 (IntKind.u8.wrap (65+(i:Int))))]=some [UInt8.ofNat (65+i)]:=by
      have e7:IntKind.u8.wrap (65+(i:Int))=((65+i:Nat):Int):=by
       have:IntKind.u8.wrap (65+(i:Int))=(65+(i:Int)) % 256:=rfl
       omega
      rw[e7];rfl
     refine uR1 @hb ?_;intro K hK
     refine⟨(by(repeat' apply And.intro)<;>first|omega|simp),?_⟩
     refine hK _ ?_;clear hK K
     have e8:lyL l A B n (a+3) (i+1)=(xs++[{x.1 with nm:=nmI i}],x.2):=by rw[lyL,e2,e6,e1]
     have hxl:xs.length=i:=by rw[<-e1];exact lyL_length l A B n (a+3) i
     have hsn:nds xs++[.agg [.lit (.string (strOf [UInt8.ofNat (65+i)])),I x.1.kd,I x.1.ln,I x.1.zn,IS x.1.ex]]=nds (xs++[{x.1 with nm:=nmI i}]):=by rw[nds_snoc];rfl
     by_cases hi0:i=0
     ·have hx0:xs=[]:=List.length_eq_zero_iff.1 (by omega)
      subst hi0
      subst hx0
      simp only[nilC_z,nilH_z]
      have hsn':[.agg [.lit (.string (strOf [UInt8.ofNat 65])),I x.1.kd,I x.1.ln,I x.1.zn,IS x.1.ex]]=nds [{x.1 with nm:=nmI 0}]:=rfl
      repeat refine uA ?_
      refine⟨(_,0+1,_),by simp only;omega,by simp only;omega, .of (Nat.le_refl _) (uHF1 (uI @e8 (uI @nilC_s (uI @nilH_s @hsn')))) uWF⟩
     ·simp only[nilC_p hi0,nilH_p hi0]
      repeat refine uA1 (uI @hxl @hsn) ?_
      refine⟨(_,i+1,_),by simp only;omega,by simp only;omega, .of (Nat.le_refl _) (uHF1 (uI @e8 (uI @nilC_s @nilH_s))) uWF⟩
 ·refine awp_exit ?_
  have hin:i=n:=by omega
  subst hin
  have hn0:i≠0:=by omega
  generalize e1:(lyL l A B i (a+3) i).1=xs
  generalize e2:(lyL l A B i (a+3) i).2=a'
  have hxl:xs.length=i:=by rw[<-e1];exact lyL_length l A B i (a+3) i
  simp only[nilC_p hn0,nilH_p hn0]
  refine awp_seq ?_
  have hfl:(mixL xs A).map (·.1)=fixL xs A:=rfl
  refine awp_merge (fun q:Nat×Nat=>⟨[(0, .ptO 0 0 0 0 0),(2, .ptO 102 1 0 0 0),(9, .ptO 109 24 0 0 0)],
   (109,some (24, .box [.sl (nds (if 0<gN l a' 4 then fixL xs A else xs)) false, .sl [] true]))::(102,some (1, .box [.sl [] true, .sl [] true]))::srcC l (a'+1),q.1⟩) (fun _=>True) ?_ ?_
  ·refine uR ?_;intro K hK
   refine callL rfl ((gN_sat l a' 4 hf (by omega))) uTS uTS uTS uTS uTS ?_;refine uS ?_
   refine hK _ ?_;clear hK K
   refine uW ?_;refine condP _ rfl (fun c1=>?_) (fun c1=>?_)
   ·repeat refine uA ?_
    refine uW ?_
    refine awp_loopW (fun j:Nat×Nat=>⟨[(0, .ptO 0 0 0 0 0),(2, .ptO 102 1 0 0 0),(7,I A),(9, .ptO 109 24 0 0 0),(16,I j.2)],(109,some (24, .box [.slO 239 g 0 i, .sl [] true]))::(239,some (g, .own 49 5 (mixes (mixL xs j.2))))::(102,some (1, .box [.sl [] true, .sl [] true]))::srcC l (a'+1),j.1⟩) (fun j=>j.2<=A) (fun j=>A - j.2) (_,0) (Nat.zero_le _) (.of (Nat.le_refl _) (by repeat first|exact HOk.nil|refine uHN ?_|(refine HOk.cons ?_ ?_;(focus (simp only[go_sem,Nat.reduceAdd,Nat.reduceSub,Nat.reduceMul,Nat.reduceLT,Nat.reduceEqDiff,Nat.reduceBEq,Nat.reduceLeDiff,Int.reduceToNat,↓reduceIte,Int.reduceEq,Int.reduceLT,Int.reduceLE,Int.reduceAdd,Int.reduceSub,Int.reduceNeg,reduceCtorEq,mixes_nds,mixL];done)))) (by repeat first|exact WOk.nil|refine uWN ?_|(refine WOk.cons ?_ ?_;(focus (simp only[go_sem,Nat.reduceAdd,Nat.reduceSub,Nat.reduceMul,Nat.reduceLT,Nat.reduceEqDiff,Nat.reduceBEq,Nat.reduceLeDiff,Int.reduceToNat,↓reduceIte,Int.reduceEq,Int.reduceLT,Int.reduceLE,Int.reduceAdd,Int.reduceSub,Int.reduceNeg,reduceCtorEq];done))))) ?_
    rintro⟨ck5,j⟩ hj
    simp only at hj
    repeat refine uA ?_
    refine uW ?_;refine condP _ rfl (fun h2=>?_) (fun h2=>?_)
    ·have hjx:j<xs.length:=by omega
     have hml:=mixL_length xs j
     have hmg:=mixL_getD (xs:=xs) (j:=j) j (Nat.le_refl _) hjx
     generalize e7:xs.getD j default=x at*
     obtain⟨hx1,hx2⟩:1<=x.ex.length/\x.ex.length<=2:=by rw[<-e7,<-e1];exact lyL_ex (by omega) (by omega) (by omega)
     have e8:mixL xs (j+1)=if x.kd≠5/\((j+1:Nat):Int)∉x.ex then(mixL xs j).set j (fixX j x,true) else mixL xs j:=by rw[<-e7];rfl
     have ej:(j:Int)+1=((j+1:Nat):Int):=by omega
     by_cases c2:x.kd=5
     ·have d2:decide (¬x.kd=5)=false:=decide_eq_false (by omega)
      rw[if_neg (fun h=>h.1 c2)] at e8
      refine uR1 (uI @mixes_length (uI @hml (uI @hmg @d2))) ?_;intro K hK
      refine uH ?_;refine hK _ ?_;clear hK K
      refine uF ?_
      repeat refine uA ?_
      refine⟨(_,j+1),by simp only;omega,by simp only;omega, .of (Nat.le_refl _) (uHF1 @e8) uWF⟩
     ·have d2:decide (¬x.kd=5)=true:=decide_eq_true c2
      refine uR1 (uI @mixes_length (uI @hml (uI @hmg @d2))) ?_;intro K hK
      refine uH ?_
      rw[ej]
      refine callF uTS ((in_sat x.ex ((j+1:Nat):Int) (by omega))) uTS uTS uTS ?_;refine uS ?_
      by_cases c3:((j+1:Nat):Int)∈x.ex
      ·have d3:decide (((j+1:Nat):Int)∈x.ex)=true:=decide_eq_true c3
       rw[if_neg (fun h=>h.2 c3)] at e8
       first|refine uS1 @d3 ?_|exact uX1 @d3
       refine hK _ ?_;clear hK K
       refine uF ?_
       repeat refine uA ?_
       refine⟨(_,j+1),by simp only;omega,by simp only;omega, .of (Nat.le_refl _) (uHF1 @e8) uWF⟩
      ·have d3:decide (((j+1:Nat):Int)∈x.ex)=false:=decide_eq_false c3
       rw[if_pos ⟨c2,c3⟩] at e8
       first|refine uS1 @d3 ?_|exact uX1 @d3
       refine hK _ ?_;clear hK K
       refine uT ?_
       (repeat first|refine awp_seq ?_|refine awp_skip ?_|refine awp_block ?_);refine awp_region_drawR hC (by kernel_rfl) (by kernel_rfl) rfl fun K hK=>?_;simp only[go_sem,Nat.reduceAdd,Nat.reduceSub,Nat.reduceMul,Nat.reduceLT,Nat.reduceEqDiff,Nat.reduceBEq,Nat.reduceLeDiff,Int.reduceToNat,↓reduceIte,Int.reduceEq,Int.reduceLT,Int.reduceLE,Int.reduceAdd,Int.reduceSub,Int.reduceNeg,reduceCtorEq,mixes_length,hml,hmg,ints_drop,List.length_drop]
       have hset:(mixes (mixL xs j)).set j (.agg [S x.nm,I x.kd,I x.ln,I x.zn, .kid 3 1 (.lit (.int .i64 ((j:Int)+1))::ints (x.ex.drop 1))])=mixes ((mixL xs j).set j (fixX j x,true)):=by
        rw[ej];exact mixes_set (ex:=((j+1:Nat):Int)::x.ex.drop 1)
       (repeat ((with_reducible refine And.intro ?_ ?_);focus (((repeat' apply And.intro)<;>first|omega|(simp;done)|kernel_rfl))))
       refine hK _ ?_;clear hK K
       simp only[and_self,if_false,hset]
       repeat refine uA ?_
       refine⟨(_,j+1),by simp only;omega,by simp only;omega, .of (Nat.le_refl _) (uHF1 @e8) uWF⟩
    ·refine awp_exit ?_
     have hja:j=A:=by omega
     subst hja
     refine uW ?_
     refine⟨(_,0),trivial, .of (Nat.le_refl _) (by repeat (first|exact HOk.nil|refine HOk.cons rfl ?_|refine HOk.gone ?_|refine HOk.opt rfl ?_|(refine HOk.cons ?_ ?_;(focus (simp only[go_sem,Nat.reduceAdd,Nat.reduceSub,Nat.reduceMul,Nat.reduceLT,Nat.reduceEqDiff,Nat.reduceBEq,Nat.reduceLeDiff,Int.reduceToNat,↓reduceIte,Int.reduceEq,Int.reduceLT,Int.reduceLE,Int.reduceAdd,Int.reduceSub,Int.reduceNeg,reduceCtorEq,if_pos c1,mixes_fz,mixes_fzP,mixes_fzR,mixes_length,mixL_length,hxl,hfl];done)))|(refine HOk.less rfl (ObW.ofBW ?_) ?_;(focus ((repeat (first|exact BW.nil|refine BW.same ?_|(refine BW.frz ?_ ?_ ?_ ?_;(focus (first|exact trivial|(simp only[go_sem,Nat.reduceAdd,Nat.reduceSub,Nat.reduceMul,Nat.reduceLT,Nat.reduceEqDiff,Nat.reduceBEq,Nat.reduceLeDiff,Int.reduceToNat,↓reduceIte,Int.reduceEq,Int.reduceLT,Int.reduceLE,Int.reduceAdd,Int.reduceSub,Int.reduceNeg,reduceCtorEq,if_pos c1,mixes_fz,mixes_fzP,mixes_fzR,mixes_length,mixL_length,hxl,hfl]<;>trivial)));(focus (first|rfl|((simp only[go_sem,Nat.reduceAdd,Nat.reduceSub,Nat.reduceMul,Nat.reduceLT,Nat.reduceEqDiff,Nat.reduceBEq,Nat.reduceLeDiff,Int.reduceToNat,↓reduceIte,Int.reduceEq,Int.reduceLT,Int.reduceLE,Int.reduceAdd,Int.reduceSub,Int.reduceNeg,reduceCtorEq,if_pos c1,mixes_fz,mixes_fzP,mixes_fzR,mixes_length,mixL_length,hxl,hfl]<;>rfl);done)));(focus (first|(simp only[go_sem,Nat.reduceAdd,Nat.reduceSub,Nat.reduceMul,Nat.reduceLT,Nat.reduceEqDiff,Nat.reduceBEq,Nat.reduceLeDiff,Int.reduceToNat,↓reduceIte,Int.reduceEq,Int.reduceLT,Int.reduceLE,Int.reduceAdd,Int.reduceSub,Int.reduceNeg,reduceCtorEq,if_pos c1,mixes_fz,mixes_fzP,mixes_fzR,mixes_length,mixL_length,hxl,hfl];done)|((simp only[go_sem,Nat.reduceAdd,Nat.reduceSub,Nat.reduceMul,Nat.reduceLT,Nat.reduceEqDiff,Nat.reduceBEq,Nat.reduceLeDiff,Int.reduceToNat,↓reduceIte,Int.reduceEq,Int.reduceLT,Int.reduceLE,Int.reduceAdd,Int.reduceSub,Int.reduceNeg,reduceCtorEq,if_pos c1,mixes_fz,mixes_fzP,mixes_fzR,mixes_length,mixL_length,hxl,hfl]<;>simp);done)|(simp;done)))))));done)))) (by repeat (first|exact WOk.nil|refine WOk.cons rfl ?_|(refine WOk.cons ?_ ?_;(focus (simp only[go_sem,Nat.reduceAdd,Nat.reduceSub,Nat.reduceMul,Nat.reduceLT,Nat.reduceEqDiff,Nat.reduceBEq,Nat.reduceLeDiff,Int.reduceToNat,↓reduceIte,Int.reduceEq,Int.reduceLT,Int.reduceLE,Int.reduceAdd,Int.reduceSub,Int.reduceNeg,reduceCtorEq];done)))|(refine WOk.snap ?_ ?_ ?_ ?_;(focus (first|exact trivial|(simp only[go_sem,Nat.reduceAdd,Nat.reduceSub,Nat.reduceMul,Nat.reduceLT,Nat.reduceEqDiff,Nat.reduceBEq,Nat.reduceLeDiff,Int.reduceToNat,↓reduceIte,Int.reduceEq,Int.reduceLT,Int.reduceLE,Int.reduceAdd,Int.reduceSub,Int.reduceNeg,reduceCtorEq]<;>trivial)));(focus (first|rfl|((simp only[go_sem,Nat.reduceAdd,Nat.reduceSub,Nat.reduceMul,Nat.reduceLT,Nat.reduceEqDiff,Nat.reduceBEq,Nat.reduceLeDiff,Int.reduceToNat,↓reduceIte,Int.reduceEq,Int.reduceLT,Int.reduceLE,Int.reduceAdd,Int.reduceSub,Int.reduceNeg,reduceCtorEq]<;>rfl);done)));(focus (first|(simp only[go_sem,Nat.reduceAdd,Nat.reduceSub,Nat.reduceMul,Nat.reduceLT,Nat.reduceEqDiff,Nat.reduceBEq,Nat.reduceLeDiff,Int.reduceToNat,↓reduceIte,Int.reduceEq,Int.reduceLT,Int.reduceLE,Int.reduceAdd,Int.reduceSub,Int.reduceNeg,reduceCtorEq];done)|((simp only[go_sem,Nat.reduceAdd,Nat.reduceSub,Nat.reduceMul,Nat.reduceLT,Nat.reduceEqDiff,Nat.reduceBEq,Nat.reduceLeDiff,Int.reduceToNat,↓reduceIte,Int.reduceEq,Int.reduceLT,Int.reduceLE,Int.reduceAdd,Int.reduceSub,Int.reduceNeg,reduceCtorEq]<;>simp);done)|(simp;done))))))⟩
   ·refine uW ?_
    refine⟨(_,0),trivial, .of (Nat.le_refl _) (by repeat (first|exact HOk.nil|refine HOk.cons rfl ?_|refine HOk.gone ?_|refine HOk.opt rfl ?_|(refine HOk.cons ?_ ?_;(focus (simp only[go_sem,Nat.reduceAdd,Nat.reduceSub,Nat.reduceMul,Nat.reduceLT,Nat.reduceEqDiff,Nat.reduceBEq,Nat.reduceLeDiff,Int.reduceToNat,↓reduceIte,Int.reduceEq,Int.reduceLT,Int.reduceLE,Int.reduceAdd,Int.reduceSub,Int.reduceNeg,reduceCtorEq,if_neg c1,nds_length,hxl];done)))|(refine HOk.less rfl (ObW.ofBW ?_) ?_;(focus ((repeat (first|exact BW.nil|refine BW.same ?_|(refine BW.frz ?_ ?_ ?_ ?_;(focus (first|exact trivial|(simp only[go_sem,Nat.reduceAdd,Nat.reduceSub,Nat.reduceMul,Nat.reduceLT,Nat.reduceEqDiff,Nat.reduceBEq,Nat.reduceLeDiff,Int.reduceToNat,↓reduceIte,Int.reduceEq,Int.reduceLT,Int.reduceLE,Int.reduceAdd,Int.reduceSub,Int.reduceNeg,reduceCtorEq,if_neg c1,nds_length,hxl]<;>trivial)));(focus (first|rfl|((simp only[go_sem,Nat.reduceAdd,Nat.reduceSub,Nat.reduceMul,Nat.reduceLT,Nat.reduceEqDiff,Nat.reduceBEq,Nat.reduceLeDiff,Int.reduceToNat,↓reduceIte,Int.reduceEq,Int.reduceLT,Int.reduceLE,Int.reduceAdd,Int.reduceSub,Int.reduceNeg,reduceCtorEq,if_neg c1,nds_length,hxl]<;>rfl);done)));(focus (first|(simp only[go_sem,Nat.reduceAdd,Nat.reduceSub,Nat.reduceMul,Nat.reduceLT,Nat.reduceEqDiff,Nat.reduceBEq,Nat.reduceLeDiff,Int.reduceToNat,↓reduceIte,Int.reduceEq,Int.reduceLT,Int.reduceLE,Int.reduceAdd,Int.reduceSub,Int.reduceNeg,reduceCtorEq,if_neg c1,nds_length,hxl];done)|((simp only[go_sem,Nat.reduceAdd,Nat.reduceSub,Nat.reduceMul,Nat.reduceLT,Nat.reduceEqDiff,Nat.reduceBEq,Nat.reduceLeDiff,Int.reduceToNat,↓reduceIte,Int.reduceEq,Int.reduceLT,Int.reduceLE,Int.reduceAdd,Int.reduceSub,Int.reduceNeg,reduceCtorEq,if_neg c1,nds_length,hxl]<;>simp);done)|(simp;done)))))));done)))) (by repeat (first|exact WOk.nil|refine WOk.cons rfl ?_|(refine WOk.cons ?_ ?_;(focus (simp only[go_sem,Nat.reduceAdd,Nat.reduceSub,Nat.reduceMul,Nat.reduceLT,Nat.reduceEqDiff,Nat.reduceBEq,Nat.reduceLeDiff,Int.reduceToNat,↓reduceIte,Int.reduceEq,Int.reduceLT,Int.reduceLE,Int.reduceAdd,Int.reduceSub,Int.reduceNeg,reduceCtorEq];done)))|(refine WOk.snap ?_ ?_ ?_ ?_;(focus (first|exact trivial|(simp only[go_sem,Nat.reduceAdd,Nat.reduceSub,Nat.reduceMul,Nat.reduceLT,Nat.reduceEqDiff,Nat.reduceBEq,Nat.reduceLeDiff,Int.reduceToNat,↓reduceIte,Int.reduceEq,Int.reduceLT,Int.reduceLE,Int.reduceAdd,Int.reduceSub,Int.reduceNeg,reduceCtorEq]<;>trivial)));(focus (first|rfl|((simp only[go_sem,Nat.reduceAdd,Nat.reduceSub,Nat.reduceMul,Nat.reduceLT,Nat.reduceEqDiff,Nat.reduceBEq,Nat.reduceLeDiff,Int.reduceToNat,↓reduceIte,Int.reduceEq,Int.reduceLT,Int.reduceLE,Int.reduceAdd,Int.reduceSub,Int.reduceNeg,reduceCtorEq]<;>rfl);done)));(focus (first|(simp only[go_sem,Nat.reduceAdd,Nat.reduceSub,Nat.reduceMul,Nat.reduceLT,Nat.reduceEqDiff,Nat.reduceBEq,Nat.reduceLeDiff,Int.reduceToNat,↓reduceIte,Int.reduceEq,Int.reduceLT,Int.reduceLE,Int.reduceAdd,Int.reduceSub,Int.reduceNeg,reduceCtorEq];done)|((simp only[go_sem,Nat.reduceAdd,Nat.reduceSub,Nat.reduceMul,Nat.reduceLT,Nat.reduceEqDiff,Nat.reduceBEq,Nat.reduceLeDiff,Int.reduceToNat,↓reduceIte,Int.reduceEq,Int.reduceLT,Int.reduceLE,Int.reduceAdd,Int.reduceSub,Int.reduceNeg,reduceCtorEq]<;>simp);done)|(simp;done))))))⟩
  ·rintro⟨ck6,u⟩ _
   have hml:(if 0<gN l a' 4 then fixL xs A else xs).length=i:=by
    split
    ·rw[fixL_length,hxl]
    ·exact hxl
   generalize hyd:(if 0<gN l a' 4 then fixL xs A else xs)=ys at*
   simp only
   refine uR ?_;intro K hK
   have hyl:∀k,k<ys.length->0<=(ys.getD k default).ln/\(ys.getD k default).ln<=1000:=by
    intro k hk
    have:=lyL_ln (l:=l) (A:=A) (B:=B) (n:=i) (a:=a+3) (i:=i) (j:=k) (by omega)
    rw[e1] at this
    rw[<-hyd]
    split
    ·rw[fixL_getD (by omega)]
     split
     ·rw[fixN_ln.1];omega
     ·omega
    ·omega
   refine callL rfl ((devices_sat l (a'+1) ys [] hf (by omega) hyl)) uTS uTS uTS uTS uTS ?_;refine uS ?_
   refine hK _ ?_;clear hK K
   refine uR ?_;intro K hK
   refine uH ?_;refine hK _ ?_;clear hK K
   refine awp_ret ?_;rw[show Tryz.f12.results.toList=[.cell 2 30] from rfl];(refine(retBs uRG rfl uTC uTC ?_ ?_);all_goals (first|refine uSC ?_|exact uXC|skip))
def cut2 (l:List Int):List Int:=l.take 2000
theorem new_sat (l:List Int) (h:l.length<=9223372036854775807):SatG Tryz.prog tab 11 [] [IS l] [(100,some (1, .box [IS (cut2 l),I 0]))] (.ptO 100 1 0 0 0):=by
 refine uFN Tryz.func11 Tryz.ntmps11 ?_;intro w e X hC
 repeat refine uA ?_
 refine uW ?_;refine condP _ rfl (fun h=>?_) (fun h=>?_)
 ·repeat refine uA ?_
  have e:ints (l.take 2000)=ints (cut2 l):=rfl
  simp only[ints_take,e]
  refine awp_ret ?_;rw[show Tryz.f11.results.toList=[.tmp 2] from rfl];(refine retG [(100,1,110,10)] uRG (by simp) (by simp) (by simp) uTG uTG uTG ?_ ?_;all_goals (first|refine uSG ?_|exact uXG|skip))
 ·have e:l=cut2 l:=by rw[cut2,List.take_of_length_le (by omega)]
  repeat refine uA ?_
  rw[<-e]
  refine awp_ret ?_;rw[show Tryz.f11.results.toList=[.tmp 2] from rfl];(refine retG [(100,1,110,7)] uRG (by simp) (by simp) (by simp) uTG uTG uTG ?_ ?_;all_goals (first|refine uSG ?_|exact uXG|skip))
structure PW where
 w:List Int
 bag:Int
 n:Int
 full:Int
 a:Nat
def pw1 (l:List Int) (k:Nat) (s:PW):PW:=
 if 0<s.n/\0<s.full then
  if gN l s.a 2=0 then⟨s.w.set k s.bag,s.bag+1,s.n - 1,s.full - 1,s.a+1⟩ else⟨s.w,s.bag,s.n,s.full,s.a+1⟩
 else s
def pwk (l:List Int) (s:PW):Nat->PW
 |0=>s
 |k+1=>pw1 l k (pwk l s k)
structure PN where
 slots:List (List Int)
 bins:List (List Int)
 bag:Int
 n:Int
 a:Nat
def pw0 (x:Nd) (s:PN):PW:=⟨List.replicate x.ln.toNat 0,s.bag,s.n,if x.kd=5 then x.ln - 1 else x.ln,s.a⟩
def pn2 (l:List Int) (x:Nd) (s:PN) (r:PW):PN:=
 if x.ln=0/\0<r.n then
  if gN l r.a 3=0 then⟨s.slots++[r.w],s.bins++[[r.bag]],r.bag+1,r.n - 1,r.a+1⟩ else⟨s.slots++[r.w],s.bins++[[]],r.bag,r.n,r.a+1⟩
 else⟨s.slots++[r.w],s.bins++[[]],r.bag,r.n,r.a⟩
def pns (l:List Int) (xs:List Nd) (n:Int) (a:Nat):Nat->PN
 |0=>⟨[],[],1,n,a⟩
 |i+1=>pn2 l (xs.getD i default) (pns l xs n a i) (pwk l (pw0 (xs.getD i default) (pns l xs n a i)) (xs.getD i default).ln.toNat)
def gPl (l:List Int) (a:Nat) (xs:List Nd) (n:Int):Pl×Nat:=(⟨(pns l xs n a xs.length).slots,(pns l xs n a xs.length).bins⟩,(pns l xs n a xs.length).a)
theorem pwk_ok {l:List Int} {s:PW} (h:0<=s.n) (h2:-1<=s.full):∀k,0<=(pwk l s k).n/\(pwk l s k).bag+(pwk l s k).n=s.bag+s.n/\-1<=(pwk l s k).full/\(pwk l s k).full<=s.full/\(pwk l s k).w.length=s.w.length/\(pwk l s k).n<=s.n/\s.bag<=(pwk l s k).bag
 |0=>⟨h,rfl,h2,Int.le_refl _,rfl,Int.le_refl _,Int.le_refl _⟩
 |k+1=>by
  obtain⟨h1,h2,h3,h4,h5,h6,h7⟩:=pwk_ok (l:=l) (s:=s) h h2 k
  rw[pwk]
  generalize pwk l s k=r at*
  unfold pw1
  split
  ·split
   ·simp only[List.length_set];omega
   ·exact⟨h1,h2,h3,h4,h5,h6,h7⟩
  ·exact⟨h1,h2,h3,h4,h5,h6,h7⟩
theorem pns_ok {l:List Int} {xs:List Nd} {n:Int} {a:Nat} (h:0<=n) (hx:∀i,i<xs.length->0<=(xs.getD i default).ln):∀i,i<=xs.length->0<=(pns l xs n a i).n/\(pns l xs n a i).bag+(pns l xs n a i).n=1+n/\(pns l xs n a i).slots.length=i/\(pns l xs n a i).bins.length=i/\1<=(pns l xs n a i).bag
 |0,_=>⟨h,rfl,rfl,rfl,Int.le_refl _⟩
 |i+1,hi=>by
  obtain⟨h1,h2,h3,h4,h5⟩:=pns_ok (l:=l) (xs:=xs) (n:=n) (a:=a) h hx i (by omega)
  have hxi:=hx i (by omega)
  rw[pns]
  generalize pns l xs n a i=s at*
  generalize xs.getD i default=x at*
  have hw:=pwk_ok (l:=l) (s:=pw0 x s) h1 (by simp only[pw0];split<;>omega) x.ln.toNat
  generalize pwk l (pw0 x s) x.ln.toNat=r at*
  simp only[pw0] at hw
  unfold pn2
  split
  ·split<;>simp only[List.length_append,List.length_singleton]<;>omega
  ·simp only[List.length_append,List.length_singleton];omega
theorem plant_sat (l:List Int) (a:Nat) (n:Int) (y:Ly) (hf:Fits l) (hn:y.nodes.length<=1000) (hm:0<=n/\n<=1000) (hx:∀i,i<y.nodes.length->0<=(y.nodes.getD i default).ln/\(y.nodes.getD i default).ln<=1000):
  SatG Tryz.prog tab 13 (srcC l a) [.ptO 0 0 0 0 0,y.av,I n] (srcC l (gPl l a y.nodes n).2) (gPl l a y.nodes n).1.av:=by
 refine uFN Tryz.func13 Tryz.ntmps13 ?_;intro w e X hC
 repeat refine uA ?_
 refine uW ?_
 refine awp_loopW (fun i:Nat×Nat×Nat×Nat=>⟨[(0, .ptO 0 0 0 0 0),(2,I (pns l y.nodes n a i.2.1).n),(4, .ptO 104 1 0 0 0),(6, .ptO 106 2 0 0 0),(7, .ptO 107 3 0 0 0),(8,I (pns l y.nodes n a i.2.1).bag),(9,I i.2.1)],
  (107,some (3, .box [nilC i.2.1 (.slO 188 i.2.2.1 0 i.2.1),nilC i.2.1 (.slO 193 i.2.2.2 0 i.2.1)]))::(188,nilH i.2.1 (i.2.2.1, .own 22 1 (krows 3 (pns l y.nodes n a i.2.1).slots)))::(193,nilH i.2.1 (i.2.2.2, .own 22 1 (krows 3 (pns l y.nodes n a i.2.1).bins)))::(106,some (2, .box [.sl [] true, .sl [] true]))::(104,some (1, .box [.sl (nds y.nodes) false, .sl (t3s y.devs) false]))::srcC l (pns l y.nodes n a i.2.1).a,i.1⟩) (fun i=>i.2.1<=y.nodes.length) (fun i=>y.nodes.length - i.2.1) (_,0,0,0) (Nat.zero_le _) (uKF) ?_
 rintro⟨ck,i,g1,g2⟩ hi
 simp only at hi
 obtain⟨ho1,ho2,ho3,ho4,ho5⟩:=pns_ok (l:=l) (xs:=y.nodes) (n:=n) (a:=a) hm.1 (fun i h=>(hx i h).1) i hi
 repeat refine uA ?_
 refine uW ?_;refine condP _ rfl (fun h=>?_) (fun h=>?_)
 ·have hlt:i<y.nodes.length:=by omega
  have hxi:=hx i hlt
  have e1:pns l y.nodes n a (i+1)=pn2 l (y.nodes.getD i default) (pns l y.nodes n a i) (pwk l (pw0 (y.nodes.getD i default) (pns l y.nodes n a i)) (y.nodes.getD i default).ln.toNat):=rfl
  generalize pns l y.nodes n a i=s at*
  generalize e2:y.nodes.getD i default=x at*
  have hw:=pwk_ok (l:=l) (s:=pw0 x s) ho1 (by simp only[pw0];split<;>omega)
  have hfl:-1<=(pw0 x s).full/\(pw0 x s).full<=1000:=by simp only[pw0];split<;>omega
  have hwl:(pw0 x s).w.length=x.ln.toNat:=by simp[pw0]
  have hwn:(pw0 x s).n=s.n/\(pw0 x s).bag=s.bag/\(pw0 x s).a=s.a:=⟨rfl,rfl,rfl⟩
  have hw1:ints (List.replicate x.ln.toNat 0)=ints (pw0 x s).w:=rfl
  have hw2:(pw0 x s).full=if x.kd=5 then x.ln - 1 else x.ln:=rfl
  have e3:pwk l (pw0 x s) 0=pw0 x s:=rfl
  iterate 4 refine uA1 (uI (nds_getD hlt) (uI @e2 @hw1)) ?_
  refine awp_seq ?_
  refine awp_merge (fun q:Nat×Nat×Nat×Nat=>⟨[(0, .ptO 0 0 0 0 0),(4, .ptO 104 1 0 0 0),(6, .ptO 106 2 0 0 0),(7, .ptO 107 3 0 0 0),(9,I i),(2,I s.n),(8,I s.bag),(10, .ptO 110 q.2.1 0 0 0),(11, .slO 129 q.2.2.1 0 x.ln.toNat),(12, .slO 112 q.2.2.2 0 0),(13,I (pw0 x s).full)],
   (110,some (q.2.1, .box [S x.nm,I x.kd,I x.ln,I x.zn,IS x.ex]))::(129,some (q.2.2.1, .own 3 1 (ints (pw0 x s).w)))::(112,some (q.2.2.2, .own 3 1 []))::(107,some (3, .box [nilC i (.slO 188 g1 0 i),nilC i (.slO 193 g2 0 i)]))::(188,nilH i (g1, .own 22 1 (krows 3 s.slots)))::(193,nilH i (g2, .own 22 1 (krows 3 s.bins)))::(106,some (2, .box [.sl [] true, .sl [] true]))::(104,some (1, .box [.sl (nds y.nodes) false, .sl (t3s y.devs) false]))::srcC l s.a,q.1⟩) (fun _=>True) ?_ ?_
  ·repeat refine uA ?_
   refine uW ?_;refine condP _ rfl (fun c1=>?_) (fun c1=>?_)
   ·rw[if_pos c1] at hw2
    repeat refine uA ?_
    refine⟨(_,_,_,_),trivial, .of (Nat.le_refl _) uHF (uWF1 @hw2)⟩
   ·rw[if_neg c1] at hw2
    refine uW ?_
    refine⟨(_,_,_,_),trivial, .of (Nat.le_refl _) uHF (uWF1 @hw2)⟩
  ·rintro⟨ck2,g3,g4,g5⟩ _
   generalize e4:pw0 x s=s0 at*
   simp only
   repeat refine uA ?_
   refine uW ?_
   refine awp_loopW (fun q:Nat×Nat×Nat×Nat×Nat=>⟨[(0, .ptO 0 0 0 0 0),(4, .ptO 104 1 0 0 0),(6, .ptO 106 2 0 0 0),(7, .ptO 107 3 0 0 0),(9,I i),(2,I (pwk l s0 q.2.2.2.2).n),(8,I (pwk l s0 q.2.2.2.2).bag),(10, .ptO 110 q.2.1 0 0 0),(11, .slO 129 q.2.2.1 0 x.ln.toNat),(12, .slO 112 q.2.2.2.1 0 0),(13,I (pwk l s0 q.2.2.2.2).full),(14,I q.2.2.2.2)],
    (110,some (q.2.1, .box [S x.nm,I x.kd,I x.ln,I x.zn,IS x.ex]))::(129,some (q.2.2.1, .own 3 1 (ints (pwk l s0 q.2.2.2.2).w)))::(112,some (q.2.2.2.1, .own 3 1 []))::(107,some (3, .box [nilC i (.slO 188 g1 0 i),nilC i (.slO 193 g2 0 i)]))::(188,nilH i (g1, .own 22 1 (krows 3 s.slots)))::(193,nilH i (g2, .own 22 1 (krows 3 s.bins)))::(106,some (2, .box [.sl [] true, .sl [] true]))::(104,some (1, .box [.sl (nds y.nodes) false, .sl (t3s y.devs) false]))::srcC l (pwk l s0 q.2.2.2.2).a,q.1⟩) (fun q=>q.2.2.2.2<=x.ln.toNat) (fun q=>x.ln.toNat - q.2.2.2.2) (_,_,_,_,0) (Nat.zero_le _) (.of (Nat.le_refl _) (uHF1 (uI @e3 @hwn)) (uWF1 (uI @e3 @hwn))) ?_
   rintro⟨ck3,g3,g4,g5,k⟩ hk
   simp only at hk
   obtain⟨hk1,hk2,hk3,hk4,hk5,hk6,hk7⟩:=hw k
   have e5:pwk l s0 (k+1)=pw1 l k (pwk l s0 k):=rfl
   generalize e6:pwk l s0 k=r at*
   repeat refine uA ?_
   refine uW ?_;refine condP _ rfl (fun h2=>?_) (fun h2=>?_)
   ·have hkl:k<x.ln.toNat:=by omega
    by_cases c2:0<r.n/\0<r.full
    ·have d1:decide (0<r.n)=true:=decide_eq_true c2.1
     have d2:decide (0<r.full)=true:=decide_eq_true c2.2
     refine uR1 (uI @d1 @d2) ?_;intro K hK
     refine callL rfl ((gN_sat l r.a 2 hf (by omega))) uTS uTS uTS uTS uTS ?_;refine uS ?_
     refine hK _ ?_;clear hK K
     refine uW ?_;refine condP _ rfl (fun c3=>?_) (fun c3=>?_)
     ·rw[show pw1 l k r=_ from if_pos c2,if_pos c3] at e5
      repeat refine uA1 (uI @hk5 @hwl) ?_
      refine⟨(_,g3,g4,g5,k+1),by simp only;omega,by simp only;omega, .of (Nat.le_refl _) (uHF1 @e5) (uWF1 @e5)⟩
     ·rw[show pw1 l k r=_ from if_pos c2,if_neg c3] at e5
      repeat refine uA ?_
      refine⟨(_,g3,g4,g5,k+1),by simp only;omega,by simp only;omega, .of (Nat.le_refl _) (uHF1 @e5) (uWF1 @e5)⟩
    ·rw[show pw1 l k r=_ from if_neg c2] at e5
     by_cases c3:0<r.n
     ·have d1:decide (0<r.n)=true:=decide_eq_true c3
      have d2:decide (0<r.full)=false:=decide_eq_false (fun h=>c2 ⟨c3,h⟩)
      repeat first|refine uC ?_|refine uA1 (uI @d1 @d2) ?_
      refine⟨(_,g3,g4,g5,k+1),by simp only;omega,by simp only;omega, .of (Nat.le_refl _) (uHF1 @e5) (uWF1 @e5)⟩
     ·have d1:decide (0<r.n)=false:=decide_eq_false c3
      repeat first|refine uC ?_|refine uA1 @d1 ?_
      refine⟨(_,g3,g4,g5,k+1),by simp only;omega,by simp only;omega, .of (Nat.le_refl _) (uHF1 @e5) (uWF1 @e5)⟩
   ·refine awp_exit ?_
    have hk':k=x.ln.toNat:=by omega
    rw[<-hk',e6] at e1
    clear hk'
    obtain⟨row,hz1,hz2,hz3⟩:∃row,pn2 l x s r=⟨s.slots++[r.w],s.bins++[row],(pn2 l x s r).bag,(pn2 l x s r).n,(pn2 l x s r).a⟩/\row.length<=1/\row=if x.ln=0/\0<r.n/\gN l r.a 3=0 then[r.bag] else[]:=by
     unfold pn2
     by_cases c1:x.ln=0/\0<r.n
     ·rw[if_pos c1]
      by_cases c2:gN l r.a 3=0
      ·rw[if_pos c2];exact⟨[r.bag],rfl,by simp,by rw[if_pos ⟨c1.1,c1.2,c2⟩]⟩
      ·rw[if_neg c2];exact⟨[],rfl,by simp,by rw[if_neg (fun h=>c2 h.2.2)]⟩
     ·rw[if_neg c1];exact⟨[],rfl,by simp,by rw[if_neg (fun h=>c1 ⟨h.1,h.2.1⟩)]⟩
    have hz4:pn2 l x s r=if x.ln=0/\0<r.n then(if gN l r.a 3=0 then⟨s.slots++[r.w],s.bins++[[r.bag]],r.bag+1,r.n - 1,r.a+1⟩ else⟨s.slots++[r.w],s.bins++[[]],r.bag,r.n,r.a+1⟩) else⟨s.slots++[r.w],s.bins++[[]],r.bag,r.n,r.a⟩:=rfl
    generalize e7:pn2 l x s r=z at*
    refine awp_seq ?_
    refine awp_merge (fun q:Nat×Nat×Nat=>⟨[(0, .ptO 0 0 0 0 0),(4, .ptO 104 1 0 0 0),(6, .ptO 106 2 0 0 0),(7, .ptO 107 3 0 0 0),(9,I i),(2,I z.n),(8,I z.bag),(11, .slO 129 q.2.1 0 x.ln.toNat),(12, .slO 112 q.2.2 0 row.length)],
     (129,some (q.2.1, .own 3 1 (ints r.w)))::(112,some (q.2.2, .own 3 1 (ints row)))::(107,some (3, .box [nilC i (.slO 188 g1 0 i),nilC i (.slO 193 g2 0 i)]))::(188,nilH i (g1, .own 22 1 (krows 3 s.slots)))::(193,nilH i (g2, .own 22 1 (krows 3 s.bins)))::(106,some (2, .box [.sl [] true, .sl [] true]))::(104,some (1, .box [.sl (nds y.nodes) false, .sl (t3s y.devs) false]))::srcC l z.a,q.1⟩) (fun _=>True) ?_ ?_
    ·by_cases c1:x.ln=0
     ·have d1:decide (x.ln=0)=true:=decide_eq_true c1
      by_cases c2:0<r.n
      ·have d2:decide (0<r.n)=true:=decide_eq_true c2
       rw[if_pos ⟨c1,c2⟩] at hz4
       refine uR1 (uI @d1 @d2) ?_;intro K hK
       refine callL rfl ((gN_sat l r.a 3 hf (by omega))) uTS uTS uTS uTS uTS ?_;refine uS ?_
       refine hK _ ?_;clear hK K
       refine uW ?_;refine condP _ rfl (fun c3=>?_) (fun c3=>?_)
       ·rw[if_pos c3] at hz4
        rw[if_pos ⟨c1,c2,c3⟩] at hz3
        subst hz3
        subst hz4
        repeat refine uA ?_
        refine⟨(_,g4,g5),trivial,uKF⟩
       ·rw[if_neg c3] at hz4
        rw[if_neg (fun h=>c3 h.2.2)] at hz3
        subst hz3
        subst hz4
        refine uW ?_
        refine⟨(_,g4,g5),trivial,uKF⟩
      ·have d2:decide (0<r.n)=false:=decide_eq_false c2
       rw[if_neg (fun h=>c2 h.2)] at hz4
       rw[if_neg (fun h=>c2 h.2.1)] at hz3
       subst hz3
       subst hz4
       repeat first|refine uC ?_|refine uA1 (uI @d1 @d2) ?_
       refine uW ?_
       refine⟨(_,g4,g5),trivial,uKF⟩
     ·have d1:decide (x.ln=0)=false:=decide_eq_false c1
      rw[if_neg (fun h=>c1 h.1)] at hz4
      rw[if_neg (fun h=>c1 h.1)] at hz3
      subst hz3
      subst hz4
      repeat first|refine uC ?_|refine uA1 @d1 ?_
      refine uW ?_
      refine⟨(_,g4,g5),trivial,uKF⟩
    ·rintro⟨ck4,g6,g7⟩ _
     simp only
     have hzs:z.slots=s.slots++[r.w]/\z.bins=s.bins++[row]:=by rw[hz1];exact⟨rfl,rfl⟩
     by_cases hi0:i=0
     ·subst hi0
      have hs1:s.slots=[]:=List.length_eq_zero_iff.1 ho3
      have hs2:s.bins=[]:=List.length_eq_zero_iff.1 ho4
      simp only[nilC_z,nilH_z]
      refine uD1 (uI @hk5 (uI @hwl @krows_one)) ?_;intro K hK
      refine uH ?_
      refine hK _ ?_;clear hK K
      repeat refine uA ?_
      have hzs':z.slots=[r.w]/\z.bins=[row]:=by rw[hzs.1,hzs.2,hs1,hs2];exact⟨rfl,rfl⟩
      refine⟨(_,0+1,ck4+4,ck4+9),by simp only;omega,by simp only;omega, .of (Nat.le_refl _) (uHF1 (uI @e1 (uI @hzs' (uI @nilC_s @nilH_s)))) (uWF1 @e1)⟩
     ·simp only[nilC_p hi0,nilH_p hi0]
      refine uD1 (uI @ho3 (uI @ho4 (uI @hk5 @hwl))) ?_;intro K hK
      refine uH ?_
      refine hK _ ?_;clear hK K
      repeat refine uA ?_
      refine⟨(_,i+1,g1,g2),by simp only;omega,by simp only;omega, .of (Nat.le_refl _) (uHF1 (uI @e1 (uI @hzs (uI @nilC_s @nilH_s)))) (uWF1 @e1)⟩
 ·refine awp_exit ?_
  have hi':i=y.nodes.length:=by omega
  by_cases hi0:i=0
  ·subst hi0
   simp only[nilC_z,nilH_z]
   repeat refine uA ?_
   have hg:gPl l a y.nodes n=(⟨[],[]⟩,a):=by rw[gPl,<-hi'];rfl
   refine awp_ret ?_;rw[show Tryz.f13.results.toList=[.cell 6 34] from rfl];(refine(retBs uRG rfl uTC uTC ?_ ?_);all_goals (first|refine uSC ?_|exact uXC|skip))
   ·rw[hg];rfl
   ·rw[hg];rfl
  ·simp only[nilC_p hi0,nilH_p hi0]
   repeat refine uA ?_
   have hg:gPl l a y.nodes n=(⟨(pns l y.nodes n a i).slots,(pns l y.nodes n a i).bins⟩,(pns l y.nodes n a i).a):=by rw[gPl,<-hi']
   refine awp_ret ?_;rw[show Tryz.f13.results.toList=[.cell 6 34] from rfl];(refine(retBs (uRG1 (uI @ho3 @ho4)) rfl (uTC1 (uI @ho3 @ho4)) (uTC1 (uI @ho3 @ho4)) ?_ ?_);all_goals (first|refine uSC ?_|exact uXC|skip))
   ·rw[hg]
   ·rw[hg]
def free (s:List Int):Nat:=s.count 0
theorem count_take {s:List Int} {i:Nat} (h:i<s.length):(s.take (i+1)).count 0=(s.take i).count 0+if s.getD i 0=0 then 1 else 0:=by
 rw[List.take_add_one,List.getElem?_eq_getElem h,List.count_append,List.getD_eq_getElem?_getD,List.getElem?_eq_getElem h]
 simp[List.count_cons,List.count_nil]
def isStrip (kd:Int):Bool:=decide (1<=kd)&&decide (kd<=6)
theorem strip7_sat (kd:Int):SatG Tryz.prog tab 28 [] [I kd] [] (B (isStrip kd)):=by
 refine uFN Tryz.func28 Tryz.ntmps28 ?_;intro w e X hC
 repeat refine uA ?_
 by_cases c1:1<=kd
 ·have d1:decide (1<=kd)=true:=decide_eq_true c1
  repeat refine uA1 @d1 ?_
  (refine awp_ret (ret1 uRT ?_);try rfl)
  simp only[go_sem,Nat.reduceAdd,Nat.reduceSub,Nat.reduceMul,Nat.reduceLT,Nat.reduceEqDiff,Nat.reduceBEq,Nat.reduceLeDiff,Int.reduceToNat,↓reduceIte,Int.reduceEq,Int.reduceLT,Int.reduceLE,Int.reduceAdd,Int.reduceSub,Int.reduceNeg,reduceCtorEq,isStrip,d1,Bool.true_and]
 ·have d1:decide (1<=kd)=false:=decide_eq_false c1
  repeat refine uA1 @d1 ?_
  (refine awp_ret (ret1 uRT ?_);try rfl)
  simp only[go_sem,Nat.reduceAdd,Nat.reduceSub,Nat.reduceMul,Nat.reduceLT,Nat.reduceEqDiff,Nat.reduceBEq,Nat.reduceLeDiff,Int.reduceToNat,↓reduceIte,Int.reduceEq,Int.reduceLT,Int.reduceLE,Int.reduceAdd,Int.reduceSub,Int.reduceNeg,reduceCtorEq,isStrip,d1,Bool.false_and]
theorem same_rows {a b:List (List Int)} (h:a.length=b.length) (h':∀j,j<a.length->a.getD j []=b.getD j []):a=b:=by
 refine List.ext_getElem h fun j h1 h2=>?_
 have:=h' j h1
 simpa[h1,h2] using this
theorem samePlant_sat (p q:Pl) (h1:p.slots.length<=1000) (h2:p.bins.length<=1000) (h3:∀r∈p.slots,r.length<=9223372036854775807) (h4:∀r∈p.bins,r.length<=9223372036854775807) (h5:q.slots.length<=9223372036854775807) (h6:q.bins.length<=9223372036854775807):
  SatG Tryz.prog tab 56 [] [p.av,q.av] [] (B (decide (p.slots=q.slots/\p.bins=q.bins))):=by
 have hno:¬(p.slots=q.slots/\p.bins=q.bins)->B (decide (p.slots=q.slots/\p.bins=q.bins))=B false:=fun h=>by rw[decide_eq_false h]
 refine uFN Tryz.func56 Tryz.ntmps56 ?_;intro w e X hC
 repeat refine uA ?_
 by_cases c1:p.slots.length=q.slots.length
 ·have d1:decide (¬(p.slots.length:Int)=q.slots.length)=false:=decide_eq_false (by omega)
  refine uR1 @d1 ?_;intro K hK
  refine uH ?_;refine hK _ ?_;clear hK K
  refine uW ?_;refine condP _ rfl (fun c2=>?_) (fun c2=>?_)
  ·repeat refine uA ?_
   (refine awp_ret (ret1 uRT ?_);try rfl)
   exact(hno fun h=>c2 (by rw[h.2])).symm
  ·have c2':p.bins.length=q.bins.length:=by omega
   repeat refine uA ?_
   refine uW ?_
   refine awp_loopW (fun i:Nat×Nat=>⟨[(2, .ptO 102 1 0 0 0),(3, .ptO 103 2 0 0 0),(5,I i.2)],[(102,some (1, .box [RS p.slots,RS p.bins])),(103,some (2, .box [RS q.slots,RS q.bins]))],i.1⟩) (fun i=>i.2<=p.slots.length/\∀j,j<i.2->p.slots.getD j []=q.slots.getD j []) (fun i=>p.slots.length - i.2) (_,0) ⟨Nat.zero_le _,fun j hj=>absurd hj (Nat.not_lt_zero _)⟩ (uKF) ?_
   rintro⟨ck,i⟩ ⟨hi,hj⟩
   simp only at hi hj
   repeat refine uA ?_
   refine uW ?_;refine condP _ rfl (fun h=>?_) (fun h=>?_)
   ·have hlt:i<p.slots.length:=by omega
    have hlt':i<q.slots.length:=by omega
    refine uE1 (uI (rows_getD hlt) (rows_getD hlt')) ?_;intro K hK
    refine uH ?_
    refine callF uTS ((ints_sat (p.slots.getD i []) (q.slots.getD i []) (h3 _ (by rw[List.getD_eq_getElem?_getD,List.getElem?_eq_getElem hlt];exact List.getElem_mem hlt)))) uTS uTS uTS ?_;refine uS ?_
    by_cases c3:p.slots.getD i []=q.slots.getD i []
    ·have d3:decide (p.slots.getD i []=q.slots.getD i [])=true:=decide_eq_true c3
     first|refine uS1 @d3 ?_|exact uX1 @d3
     refine hK _ ?_;clear hK K
     refine uF ?_
     repeat refine uA ?_
     refine⟨(_,i+1),⟨by omega,fun j hj'=>?_⟩,by simp only;omega,uKF⟩
     by_cases hji:j=i
     ·subst hji;exact c3
     ·exact hj j (by omega)
    ·have d3:decide (p.slots.getD i []=q.slots.getD i [])=false:=decide_eq_false c3
     first|refine uS1 @d3 ?_|exact uX1 @d3
     refine hK _ ?_;clear hK K
     refine uT ?_
     repeat refine uA ?_
     (refine awp_ret (ret1 uRT ?_);try rfl)
     exact(hno fun h=>c3 (by rw[h.1])).symm
   ·refine awp_exit ?_
    have hs:p.slots=q.slots:=same_rows c1 fun j h=>hj j (by omega)
    clear hj hi h
    repeat refine uA ?_
    refine uW ?_
    refine awp_loopW (fun i:Nat×Nat=>⟨[(2, .ptO 102 1 0 0 0),(3, .ptO 103 2 0 0 0),(6,I i.2)],[(102,some (1, .box [RS p.slots,RS p.bins])),(103,some (2, .box [RS q.slots,RS q.bins]))],i.1⟩) (fun i=>i.2<=p.bins.length/\∀j,j<i.2->p.bins.getD j []=q.bins.getD j []) (fun i=>p.bins.length - i.2) (_,0) ⟨Nat.zero_le _,fun j hj=>absurd hj (Nat.not_lt_zero _)⟩ (uKF) ?_
    rintro⟨ck,i⟩ ⟨hi,hj⟩
    simp only at hi hj
    repeat refine uA ?_
    refine uW ?_;refine condP _ rfl (fun h=>?_) (fun h=>?_)
    ·have hlt:i<p.bins.length:=by omega
     have hlt':i<q.bins.length:=by omega
     refine uE1 (uI (rows_getD hlt) (rows_getD hlt')) ?_;intro K hK
     refine uH ?_
     refine callF uTS ((ints_sat (p.bins.getD i []) (q.bins.getD i []) (h4 _ (by rw[List.getD_eq_getElem?_getD,List.getElem?_eq_getElem hlt];exact List.getElem_mem hlt)))) uTS uTS uTS ?_;refine uS ?_
     by_cases c3:p.bins.getD i []=q.bins.getD i []
     ·have d3:decide (p.bins.getD i []=q.bins.getD i [])=true:=decide_eq_true c3
      first|refine uS1 @d3 ?_|exact uX1 @d3
      refine hK _ ?_;clear hK K
      refine uF ?_
      repeat refine uA ?_
      refine⟨(_,i+1),⟨by omega,fun j hj'=>?_⟩,by simp only;omega,uKF⟩
      by_cases hji:j=i
      ·subst hji;exact c3
      ·exact hj j (by omega)
     ·have d3:decide (p.bins.getD i []=q.bins.getD i [])=false:=decide_eq_false c3
      first|refine uS1 @d3 ?_|exact uX1 @d3
      refine hK _ ?_;clear hK K
      refine uT ?_
      repeat refine uA ?_
      (refine awp_ret (ret1 uRT ?_);try rfl)
      exact(hno fun h=>c3 (by rw[h.2])).symm
    ·refine awp_exit ?_
     have hs2:p.bins=q.bins:=same_rows c2' fun j h=>hj j (by omega)
     repeat refine uA ?_
     (refine awp_ret (ret1 uRT ?_);try rfl)
     first|refine uS1 (decide_eq_true (show p.slots=q.slots/\p.bins=q.bins from⟨hs,hs2⟩)) ?_|exact uX1 (decide_eq_true (show p.slots=q.slots/\p.bins=q.bins from⟨hs,hs2⟩))
 ·have d1:decide (¬(p.slots.length:Int)=q.slots.length)=true:=decide_eq_true (by omega)
  refine uR1 @d1 ?_;intro K hK
  refine hK _ ?_;clear hK K
  refine uT ?_
  repeat refine uA ?_
  (refine awp_ret (ret1 uRT ?_);try rfl)
  exact(hno fun h=>c1 (by rw[h.1])).symm
theorem same_sat (p q:Pl) (h1:p.slots.length<=1000) (h2:p.bins.length<=1000) (h3:∀r∈p.slots,r.length<=9223372036854775807) (h4:∀r∈p.bins,r.length<=9223372036854775807) (h5:q.slots.length<=9223372036854775807) (h6:q.bins.length<=9223372036854775807):
  SatG Tryz.prog tab 18 [] [p.av,q.av] [] (B (decide (p.slots=q.slots/\p.bins=q.bins))):=by
 refine uFN Tryz.func18 Tryz.ntmps18 ?_;intro w e X hC
 repeat refine uA ?_
 refine uR ?_;intro K hK
 refine callF uTS ((samePlant_sat p q h1 h2 h3 h4 h5 h6)) uTS uTS uTS ?_;refine uS ?_
 refine hK _ ?_;clear hK K
 (refine awp_ret (ret1 uRT ?_);try rfl)
def whereP (p:Pl) (b:Int):Int×Int×Bool:=
 match (if b=0 then none else p.slots.findIdx? fun r=>decide (b∈r)) with
 |some n=>(n,((((p.slots.getD n []).findIdx? fun x=>decide (x=b)).getD 0:Nat):Int),true)
 |none=>match p.bins.findIdx? fun r=>decide (b∈r) with
  |some n=>(n,-1,true)
  |none=>(0,0,false)
abbrev whereAV (r:Int×Int×Bool):AV:= .tup [.agg [I r.1,I r.2.1],B r.2.2]
theorem fI_some {r:List Int} {b:Int} {k:Nat} (hk:k<r.length) (h:r.getD k 0=b) (h':∀j,j<k->r.getD j 0≠b):(r.findIdx? fun x=>decide (x=b))=some k:=by
 rw[List.findIdx?_eq_some_iff_getElem]
 refine⟨hk,by simpa[hk] using h,fun j hj=>?_⟩
 have hj':j<r.length:=by omega
 simpa[hj'] using h' j hj
theorem fR_some {l:List (List Int)} {b:Int} {k:Nat} (hk:k<l.length) (h:b∈l.getD k []) (h':∀j,j<k->b∉l.getD j []):(l.findIdx? fun x=>decide (b∈x))=some k:=by
 rw[List.findIdx?_eq_some_iff_getElem]
 refine⟨hk,by simpa[hk] using h,fun j hj=>?_⟩
 have hj':j<l.length:=by omega
 simpa[hj'] using h' j hj
theorem fR_none {l:List (List Int)} {b:Int} (h':∀j,j<l.length->b∉l.getD j []):(l.findIdx? fun x=>decide (b∈x))=none:=by
 rw[List.findIdx?_eq_none_iff]
 intro x hx
 obtain⟨j,hj,rfl⟩:=List.getElem_of_mem hx
 simpa[hj] using h' j hj
theorem not_mem_of {r:List Int} {b:Int} (h':∀j,j<r.length->r.getD j 0≠b):b∉r:=by
 intro hx
 obtain⟨j,hj,rfl⟩:=List.getElem_of_mem hx
 exact h' j hj (by simp[hj])
theorem where_sat (p:Pl) (b:Int) (h1:p.slots.length<=1000) (h2:p.bins.length<=1000) (h3:∀i,i<p.slots.length->(p.slots.getD i []).length<=1000) (h4:∀i,i<p.bins.length->(p.bins.getD i []).length<=9223372036854775807):
  SatG Tryz.prog tab 23 [] [p.av,I b] [] (whereAV (whereP p b)):=by
 refine uFN Tryz.func23 Tryz.ntmps23 ?_;intro w e X hC
 refine uA ?_
 refine awp_seq ?_
 refine awp_merge (fun q:Nat=>⟨[(1,I b),(2, .ptO 102 1 0 0 0),(4, .ptO 104 2 0 0 0)],(102,some (1, .box [RS p.slots,RS p.bins]))::(104,some (2, .box [I 0,I 0]))::[],q⟩) (fun _=>whereP p b=match p.bins.findIdx? fun r=>decide (b∈r) with|some n=>(n,-1,true)|none=>(0,0,false)) ?_ ?_
 rotate_left
 ·intro ck ew
  repeat refine uA ?_
  refine uW ?_
  refine awp_loopW (fun i:Nat×Nat=>⟨[(1,I b),(2, .ptO 102 1 0 0 0),(4, .ptO 104 2 0 0 0),(8,I i.2)],(102,some (1, .box [RS p.slots,RS p.bins]))::(104,some (2, .box [I 0,I 0]))::[],i.1⟩) (fun i=>i.2<=p.bins.length/\∀j,j<i.2->b∉p.bins.getD j []) (fun i=>p.bins.length - i.2) (_,0) ⟨Nat.zero_le _,fun j hj=>absurd hj (Nat.not_lt_zero _)⟩ (uKF) ?_
  rintro⟨ck,i⟩ ⟨hi,hj⟩
  simp only at hi hj
  repeat refine uA ?_
  refine uW ?_;refine condP _ rfl (fun h=>?_) (fun h=>?_)
  ·have hlt:i<p.bins.length:=by omega
   have hrl:=h4 i hlt
   generalize e1:p.bins.getD i []=r at*
   by_cases c3:b∈r
   ·have d3:decide (b∈r)=true:=decide_eq_true c3
    refine uR1 (uI (rows_getD hlt) @e1) ?_;intro K hK
    refine uH ?_
    refine callF uTS ((in_sat r b hrl)) uTS uTS uTS ?_;refine uS ?_
    simp only[d3]
    refine hK _ ?_;clear hK K
    refine uT ?_
    repeat refine uA ?_
    rw[fR_some hlt (by rw[e1];exact c3) hj] at ew
    refine awp_ret ?_;rw[show Tryz.f23.results.toList=[.cell 4 52, .tmp 5] from rfl];first|refine uRN ?_|exact uRM
    simp only[ew]
   ·have d3:decide (b∈r)=false:=decide_eq_false c3
    refine uR1 (uI (rows_getD hlt) @e1) ?_;intro K hK
    refine uH ?_
    refine callF uTS ((in_sat r b hrl)) uTS uTS uTS ?_;refine uS ?_
    simp only[d3]
    refine hK _ ?_;clear hK K
    refine uF ?_
    repeat refine uA ?_
    refine⟨(_,i+1),⟨by simp only;omega,fun j hj'=>?_⟩,by simp only;omega,uKF⟩
    by_cases hji:j=i
    ·subst hji;rw[e1];exact c3
    ·exact hj j (by simp only at hj';omega)
  ·refine awp_exit ?_
   rw[fR_none fun j h=>hj j (by omega)] at ew
   repeat refine uA ?_
   refine awp_ret ?_;rw[show Tryz.f23.results.toList=[.cell 4 52, .tmp 5] from rfl];first|refine uRN ?_|exact uRM
   simp only[ew]
 repeat refine uA ?_
 refine uW ?_
 refine awp_loopW (fun i:Nat×Nat=>⟨[(1,I b),(2, .ptO 102 1 0 0 0),(4, .ptO 104 2 0 0 0),(6,I i.2)],(102,some (1, .box [RS p.slots,RS p.bins]))::(104,some (2, .box [I 0,I 0]))::[],i.1⟩) (fun i=>i.2<=p.slots.length/\∀j,j<i.2->b∉p.slots.getD j []) (fun i=>p.slots.length - i.2) (_,0) ⟨Nat.zero_le _,fun j hj=>absurd hj (Nat.not_lt_zero _)⟩ (uKF) ?_
 rintro⟨ck,i⟩ ⟨hi,hj⟩
 simp only at hi hj
 by_cases c0:i<p.slots.length/\¬b=0
 ·have d1:decide ((i:Int)<p.slots.length)=true:=decide_eq_true (by omega)
  have d2:decide (¬b=0)=true:=decide_eq_true c0.2
  have hlt:=c0.1
  have hrl:=h3 i hlt
  generalize e1:p.slots.getD i []=r at*
  refine uR1 (uI @d1 @d2) ?_;intro K hK
  refine hK _ ?_;clear hK K
  refine uT ?_
  repeat refine uA ?_
  refine uW ?_
  refine awp_loopW (fun k:Nat×Nat=>⟨[(1,I b),(2, .ptO 102 1 0 0 0),(4, .ptO 104 2 0 0 0),(6,I i),(7,I k.2)],(102,some (1, .box [RS p.slots,RS p.bins]))::(104,some (2, .box [I 0,I 0]))::[],k.1⟩) (fun k=>k.2<=r.length/\∀j,j<k.2->r.getD j 0≠b) (fun k=>r.length - k.2) (_,0) ⟨Nat.zero_le _,fun j hj=>absurd hj (Nat.not_lt_zero _)⟩ (uKF) ?_
  rintro⟨ck,k⟩ ⟨hk,hjk⟩
  simp only at hk hjk
  repeat refine uA1 (uI (rows_getD hlt) @e1) ?_
  refine uW ?_;refine condP _ rfl (fun h=>?_) (fun h=>?_)
  ·have hkl:k<r.length:=by omega
   repeat refine uA1 (uI (rows_getD hlt) (uI @e1 (ints_getD hkl))) ?_
   refine uW ?_;refine condP _ rfl (fun c3=>?_) (fun c3=>?_)
   ·repeat refine uA ?_
    have e2:whereP p b=((i:Int),(k:Int),true):=by
     have hm:b∈p.slots.getD i []:=by rw[e1,<-c3];exact getD_memI hkl
     unfold whereP;rw[if_neg c0.2,fR_some hlt hm hj];simp only[e1,fI_some hkl c3 hjk];rfl
    refine awp_ret ?_;rw[show Tryz.f23.results.toList=[.cell 4 52, .tmp 5] from rfl];first|refine uRN ?_|exact uRM
    simp only[e2]
   ·repeat refine uA ?_
    refine⟨(_,k+1),⟨by simp only;omega,fun j hj'=>?_⟩,by simp only;omega,uKF⟩
    by_cases hjk':j=k
    ·subst hjk';exact c3
    ·exact hjk j (by simp only at hj';omega)
  ·refine awp_exit ?_
   repeat refine uA ?_
   refine⟨(_,i+1),⟨by simp only;omega,fun j hj'=>?_⟩,by simp only;omega,uKF⟩
   by_cases hji:j=i
   ·subst hji;rw[e1];exact not_mem_of fun j h=>hjk j (by omega)
   ·exact hj j (by simp only at hj';omega)
 ·have ew:whereP p b=match p.bins.findIdx? fun r=>decide (b∈r) with|some n=>(n,-1,true)|none=>(0,0,false):=by
   by_cases hb:b=0
   ·unfold whereP;rw[if_pos hb]
   ·have:(p.slots.findIdx? fun r=>decide (b∈r))=none:=fR_none fun j h=>hj j (by omega)
    unfold whereP;rw[if_neg hb,this]
  by_cases c1:i<p.slots.length
  ·have d1:decide ((i:Int)<p.slots.length)=true:=decide_eq_true (by omega)
   have d2:decide (¬b=0)=false:=decide_eq_false (fun h=>c0 ⟨c1,h⟩)
   refine uR1 (uI @d1 @d2) ?_;intro K hK
   refine hK _ ?_;clear hK K
   refine uF ?_
   refine awp_exit ?_
   refine⟨_,ew,uKF⟩
  ·have d1:decide ((i:Int)<p.slots.length)=false:=decide_eq_false (by omega)
   refine uR1 @d1 ?_;intro K hK
   refine hK _ ?_;clear hK K
   refine uF ?_
   refine awp_exit ?_
   refine⟨_,ew,uKF⟩
end Go.Proofs.YtkhjenddapaejaaGreatDoor
