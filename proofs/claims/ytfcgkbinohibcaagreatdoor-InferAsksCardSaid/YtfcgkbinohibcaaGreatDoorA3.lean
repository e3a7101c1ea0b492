/- Lemmas towards inferAsks_card: no conditions of their own. -/
import Derived.Test.YtfcgkbinohibcaaGreatDoorA2
import Derived.Test.YtfcgkbinohibcaaGreatDoorRows
set_option linter.all false
namespace Go.Sym
open Go Go.Great
theorem pn (v:Value):AV.cells (.lit v)=[.lit v]:=rfl
theorem pt (es:List AV) (b:Bool):AV.cells (.sl es b)=[.sl es b]:=rfl
theorem pm (t k:Nat) (es:List AV):AV.cells (.kid t k es)=[.kid t k es]:=rfl
theorem pq (cs:List AV):AV.cells (.P cs)=[.P cs]:=rfl
theorem pu (id g off len:Nat):AV.cells (.l id g off len)=[.l id g off len]:=rfl
theorem pr (id g n i off:Nat):AV.cells (.p id g n i off)=[.p id g n i off]:=rfl
theorem pj (f:FuncId) (cs:List AV):AV.cells (.fn f cs)=[.fn f cs]:=rfl
theorem pg (cs:List AV):AV.cells (.agg cs)=cs:=rfl
theorem po (id g:Nat):AV.cells (.mpO id g)=[.mpO id g]:=rfl
theorem QaC (v:Value):AV.one (.lit v)=true:=rfl
theorem Qab (v:Value):AV.noKid (.lit v)=true:=rfl
theorem QaG (es:List AV) (b:Bool):AV.one (.sl es b)=true:=rfl
theorem Qaf (es:List AV) (b:Bool):AV.noKid (.sl es b)=true:=rfl
theorem QaE (cs:List AV):AV.one (.P cs)=true:=rfl
theorem Qad (cs:List AV):AV.noKid (.P cs)=true:=rfl
theorem QaH (id g off len:Nat):AV.one (.l id g off len)=true:=rfl
theorem Qag (id g off len:Nat):AV.noKid (.l id g off len)=true:=rfl
theorem QaF (id g n i off:Nat):AV.one (.p id g n i off)=true:=rfl
theorem Qae (id g n i off:Nat):AV.noKid (.p id g n i off)=true:=rfl
theorem QaA (f:FuncId) (cs:List AV):AV.one (.fn f cs)=true:=rfl
theorem Qaa (f:FuncId) (cs:List AV):AV.noKid (.fn f cs)=true:=rfl
theorem QaD (id g:Nat):AV.one (.mpO id g)=true:=rfl
theorem Qac (id g:Nat):AV.noKid (.mpO id g)=true:=rfl
theorem zr (f':AV->AV) (v:Value):AH f' (.lit v)=f' (.lit v):=rfl
theorem zv (f':AV->AV) (es:List AV) (b:Bool):AH f' (.sl es b)=f' (.sl es b):=rfl
theorem zt (f':AV->AV) (cs:List AV):AH f' (.P cs)=f' (.P cs):=rfl
theorem zw (f':AV->AV) (id g off len:Nat):AH f' (.l id g off len)=f' (.l id g off len):=rfl
theorem zu (f':AV->AV) (id g n i off:Nat):AH f' (.p id g n i off)=f' (.p id g n i off):=rfl
theorem zq (f':AV->AV) (f:FuncId) (cs:List AV):AH f' (.fn f cs)=f' (.fn f cs):=rfl
theorem Qj5 (f':AV->AV) (cs:List AV):AH f' (.agg cs)= .agg (cs.map f'):=rfl
theorem rf (hp:Hp) (v:Value):fz 0 hp (.lit v)= .lit v:=rfl
theorem rq (hp:Hp) (v:Value):fzP 0 hp (.lit v)=True:=rfl
theorem ru (hp:Hp) (es:List AV) (b:Bool):fzP 0 hp (.sl es b)=True:=rfl
theorem rt (hp:Hp) (cs:List AV):fzP 0 hp (.P cs)=True:=rfl
theorem Qhw (hp:Hp) (id g off len:Nat):fz 1 hp (.l id g off len)=(match hp.get id with|some (_, .own _ _ es)=> .sl ((es.drop off).map (AH (fz 0 hp))) false|_=> .bad):=rfl
theorem rv (hp:Hp) (id g off len:Nat):fzP 1 hp (.l id g off len)=(match hp.get id with|some (g', .own _ _ es)=>g'=g/\es.length=off+len/\∀e∈es,∀c∈e.cells,fzP 0 hp c|_=>False):=rfl
theorem Qhv (hp:Hp) (id g n i off:Nat):fz 1 hp (.p id g n i off)=(match hp.get id with|some (_, .box cs)=> .P ((cs.drop off).map (fz 0 hp))|some (_, .own _ _ es)=> .P (((es.getD i .bad).cells.drop off).map (fz 0 hp))|_=> .bad):=rfl
theorem rh (hp:Hp) (v:Value):fz 3 hp (.lit v)= .lit v:=rfl
theorem rx (hp:Hp) (v:Value):fzP 3 hp (.lit v)=True:=rfl
theorem rF (hp:Hp) (v:Value):fzR 3 hp (.lit v)=[]:=rfl
theorem ri (hp:Hp) (es:List AV) (b:Bool):fz 3 hp (.sl es b)= .sl es false:=rfl
theorem rz (hp:Hp) (es:List AV) (b:Bool):fzP 3 hp (.sl es b)=True:=rfl
theorem rG (hp:Hp) (es:List AV) (b:Bool):fzR 3 hp (.sl es b)=[]:=rfl
theorem ry (hp:Hp) (cs:List AV):fzP 3 hp (.P cs)=True:=rfl
theorem rj (hp:Hp) (v:Value):fz 4 hp (.lit v)= .lit v:=rfl
theorem rA (hp:Hp) (v:Value):fzP 4 hp (.lit v)=True:=rfl
theorem rH (hp:Hp) (v:Value):fzR 4 hp (.lit v)=[]:=rfl
theorem ro (hp:Hp) (es:List AV) (b:Bool):fz 4 hp (.sl es b)= .sl es false:=rfl
theorem rD (hp:Hp) (es:List AV) (b:Bool):fzP 4 hp (.sl es b)=True:=rfl
theorem rK (hp:Hp) (es:List AV) (b:Bool):fzR 4 hp (.sl es b)=[]:=rfl
theorem rm (hp:Hp) (cs:List AV):fz 4 hp (.P cs)= .P cs:=rfl
theorem rB (hp:Hp) (cs:List AV):fzP 4 hp (.P cs)=True:=rfl
theorem rI (hp:Hp) (cs:List AV):fzR 4 hp (.P cs)=[]:=rfl
theorem rp (hp:Hp) (id g off len:Nat):fz 4 hp (.l id g off len)=(match hp.get id with|some (_, .own _ _ es)=> .sl ((es.drop off).map (AH (fz 3 hp))) false|_=> .bad):=rfl
theorem rE (hp:Hp) (id g off len:Nat):fzP 4 hp (.l id g off len)=(match hp.get id with|some (g', .own _ _ es)=>g'=g/\es.length=off+len/\∀e∈es,∀c∈e.cells,fzP 3 hp c|_=>False):=rfl
theorem rL (hp:Hp) (id g off len:Nat):fzR 4 hp (.l id g off len)=(id::match hp.get id with|some (_, .own _ _ es)=>es.flatMap fun e=>e.cells.flatMap (fzR 3 hp)|_=>[]):=rfl
theorem rn (hp:Hp) (id g n i off:Nat):fz 4 hp (.p id g n i off)=(match hp.get id with|some (_, .box cs)=> .P ((cs.drop off).map (fz 3 hp))|some (_, .own _ _ es)=> .P (((es.getD i .bad).cells.drop off).map (fz 3 hp))|_=> .bad):=rfl
theorem rC (hp:Hp) (id g n i off:Nat):fzP 4 hp (.p id g n i off)=(match hp.get id with|some (g', .box cs)=>g'=g/\n=0/\i=0/\∀c∈cs,fzP 3 hp c|some (g', .own _ _ es)=>g'=g/\n=es.length/\i<es.length/\∀c∈(es.getD i .bad).cells,fzP 3 hp c|_=>False):=rfl
theorem rJ (hp:Hp) (id g n i off:Nat):fzR 4 hp (.p id g n i off)=(id::match hp.get id with|some (_, .box cs)=>cs.flatMap (fzR 3 hp)|some (_, .own _ _ es)=>(es.getD i .bad).cells.flatMap (fzR 3 hp)|_=>[]):=rfl
theorem rX (hp:Hp) (v:Value):Ni hp (.lit v)=AH (fz 4 hp) (.lit v):=rfl
theorem rS (hp:Hp) (v:Value):Nj hp (.lit v)=(∀c∈AV.cells (.lit v),fzP 4 hp c):=rfl
theorem rV (hp:Hp) (v:Value):P3 hp (.lit v)=(AV.cells (.lit v)).flatMap (fzR 4 hp):=rfl
theorem rZ (hp:Hp) (id g off len:Nat):Ni hp (.l id g off len)=AH (fz 4 hp) (.l id g off len):=rfl
theorem rT (hp:Hp) (id g off len:Nat):Nj hp (.l id g off len)=(∀c∈AV.cells (.l id g off len),fzP 4 hp c):=rfl
theorem rW (hp:Hp) (id g off len:Nat):P3 hp (.l id g off len)=(AV.cells (.l id g off len)).flatMap (fzR 4 hp):=rfl
theorem Qi4 (hp:Hp) (cs:List AV):Ni hp (.agg cs)=AH (fz 4 hp) (.agg cs):=rfl
theorem Qi3 (hp:Hp) (cs:List AV):Nj hp (.agg cs)=(∀c∈AV.cells (.agg cs),fzP 4 hp c):=rfl
theorem r7 (hp:Hp) (vs:List AV):Ni hp (.tup vs)= .tup (vs.map (AH (fz 4 hp))):=rfl
theorem rU (hp:Hp) (vs:List AV):Nj hp (.tup vs)=(∀v∈vs,∀c∈v.cells,fzP 4 hp c):=rfl
theorem nN (hp:Hp) (v:Value):att hp (.lit v)= .lit v:=rfl
theorem nE (hp:Hp) (v:Value):attP hp (.lit v)=True:=rfl
theorem nJ (v:Value):Dj (.lit v)=[]:=rfl
theorem nP (hp:Hp) (es:List AV) (b:Bool):att hp (.sl es b)= .sl es b:=rfl
theorem nF (hp:Hp) (es:List AV) (b:Bool):attP hp (.sl es b)=True:=rfl
theorem nK (es:List AV) (b:Bool):Dj (.sl es b)=[]:=rfl
theorem nQ (hp:Hp) (id g off len:Nat):att hp (.l id g off len)=(match hp.get id with|some (_, .own t k es)=>if off=0 then .kid t k (es.map (AH (fz 0 hp))) else fz 1 hp (.l id g off len)|_=> .bad):=rfl
theorem nG (hp:Hp) (id g off len:Nat):attP hp (.l id g off len)=fzP 1 hp (.l id g off len):=rfl
theorem nL (id g off len:Nat):Dj (.l id g off len)=[id]:=rfl
theorem QeY (hp:Hp) (es:List AV) (b:Bool):Hj hp (.sl es b)=some es:=rfl
theorem Qe0 (hp:Hp) (es:List AV) (b:Bool):Jo hp (.sl es b)=True:=rfl
theorem Qe2 (hp:Hp) (es:List AV) (b:Bool):Pr hp (.sl es b)=esR es:=rfl
theorem QeZ (hp:Hp) (id g off len:Nat):Hj hp (.l id g off len)=(match hp.get id with|some (_, .own _ _ es)=>some (es.drop off)|_=>none):=rfl
theorem Qe1 (hp:Hp) (id g off len:Nat):Jo hp (.l id g off len)=(match hp.get id with|some (g', .own _ _ es)=>g'=g/\es.length=off+len|_=>False):=rfl
theorem Qe3 (hp:Hp) (id g off len:Nat):Pr hp (.l id g off len)=(match (match hp.get id with|some (_, .own _ _ es)=>some (es.drop off)|_=>none) with|some ys=>esR ys|none=>[]):=rfl
theorem Qjf (cs:List AV):E4 (.P cs)=[]:=rfl
theorem QcN (τ:Nm) (hp:Hp) (v:Value):Cd true τ hp (.lit v)=fz 4 hp (.lit v):=rfl
theorem Qcv (τ:Nm) (hp:Hp) (v:Value):Ce true τ hp (.lit v)=fzP 4 hp (.lit v):=rfl
theorem QcH (τ:Nm) (hp:Hp) (v:Value):Cr true τ hp (.lit v)=fzR 4 hp (.lit v):=rfl
theorem Qdu (τ:Nm) (hp:Hp) (v:Value):BL true τ hp (.lit v)=Cd true τ hp (.lit v):=rfl
theorem Qc9 (τ:Nm) (hp:Hp) (v:Value):B9 true τ hp (.lit v)=Ce true τ hp (.lit v):=rfl
theorem Qdn (τ:Nm) (hp:Hp) (v:Value):BT true τ hp (.lit v)=Cr true τ hp (.lit v):=rfl
theorem QdC (τ:Nm) (hp:Hp) (v:Value):rnK true τ hp (.lit v)=BL true τ hp (.lit v):=rfl
theorem QdA (τ:Nm) (hp:Hp) (v:Value):rnKP true τ hp (.lit v)=B9 true τ hp (.lit v):=rfl
theorem QdB (τ:Nm) (hp:Hp) (v:Value):rnKR true τ hp (.lit v)=BT true τ hp (.lit v):=rfl
theorem Qei (τ:Nm) (hp:Hp) (v:Value):Bw true τ hp (.lit v)=AH (BL true τ hp) (.lit v):=rfl
theorem QdV (τ:Nm) (hp:Hp) (v:Value):B7 true τ hp (.lit v)=(∀c∈AV.cells (.lit v),B9 true τ hp c):=rfl
theorem Qea (τ:Nm) (hp:Hp) (v:Value):Bl true τ hp (.lit v)=(AV.cells (.lit v)).flatMap (BT true τ hp):=rfl
theorem QcR (τ:Nm) (hp:Hp) (es:List AV) (b:Bool):Cd true τ hp (.sl es b)=fz 4 hp (.sl es b):=rfl
theorem Qcz (τ:Nm) (hp:Hp) (es:List AV) (b:Bool):Ce true τ hp (.sl es b)=fzP 4 hp (.sl es b):=rfl
theorem QcL (τ:Nm) (hp:Hp) (es:List AV) (b:Bool):Cr true τ hp (.sl es b)=fzR 4 hp (.sl es b):=rfl
theorem Qdy (τ:Nm) (hp:Hp) (es:List AV) (b:Bool):BL true τ hp (.sl es b)=Cd true τ hp (.sl es b):=rfl
theorem Qdd (τ:Nm) (hp:Hp) (es:List AV) (b:Bool):B9 true τ hp (.sl es b)=Ce true τ hp (.sl es b):=rfl
theorem Qdr (τ:Nm) (hp:Hp) (es:List AV) (b:Bool):BT true τ hp (.sl es b)=Cr true τ hp (.sl es b):=rfl
theorem Qek (τ:Nm) (hp:Hp) (es:List AV) (b:Bool):Bw true τ hp (.sl es b)=AH (BL true τ hp) (.sl es b):=rfl
theorem QdY (τ:Nm) (hp:Hp) (es:List AV) (b:Bool):B7 true τ hp (.sl es b)=(∀c∈AV.cells (.sl es b),B9 true τ hp c):=rfl
theorem Qed (τ:Nm) (hp:Hp) (es:List AV) (b:Bool):Bl true τ hp (.sl es b)=(AV.cells (.sl es b)).flatMap (BT true τ hp):=rfl
theorem QcP (τ:Nm) (hp:Hp) (cs:List AV):Cd true τ hp (.P cs)=fz 4 hp (.P cs):=rfl
theorem Qcx (τ:Nm) (hp:Hp) (cs:List AV):Ce true τ hp (.P cs)=fzP 4 hp (.P cs):=rfl
theorem QcJ (τ:Nm) (hp:Hp) (cs:List AV):Cr true τ hp (.P cs)=fzR 4 hp (.P cs):=rfl
theorem Qdw (τ:Nm) (hp:Hp) (cs:List AV):BL true τ hp (.P cs)=Cd true τ hp (.P cs):=rfl
theorem Qdb (τ:Nm) (hp:Hp) (cs:List AV):B9 true τ hp (.P cs)=Ce true τ hp (.P cs):=rfl
theorem Qdp (τ:Nm) (hp:Hp) (cs:List AV):BT true τ hp (.P cs)=Cr true τ hp (.P cs):=rfl
theorem QjT (τ:Nm) (hp:Hp) (cs:List AV):Bw true τ hp (.P cs)=AH (BL true τ hp) (.P cs):=rfl
theorem QdW (τ:Nm) (hp:Hp) (cs:List AV):B7 true τ hp (.P cs)=(∀c∈AV.cells (.P cs),B9 true τ hp c):=rfl
theorem Qeb (τ:Nm) (hp:Hp) (cs:List AV):Bl true τ hp (.P cs)=(AV.cells (.P cs)).flatMap (BT true τ hp):=rfl
theorem QcS (τ:Nm) (hp:Hp) (id g off len:Nat):Cd true τ hp (.l id g off len)=(match lk τ id with|some (i',gi,ga)=>if g=ga then .l i' gi off len else .bad|none=>fz 4 hp (.l id g off len)):=rfl
theorem QcA (τ:Nm) (hp:Hp) (id g off len:Nat):Ce true τ hp (.l id g off len)=(match lk τ id with|some (_,_,ga)=>g=ga|none=>fzP 4 hp (.l id g off len)):=rfl
theorem QcM (τ:Nm) (hp:Hp) (id g off len:Nat):Cr true τ hp (.l id g off len)=(match lk τ id with|some _=>[]|none=>fzR 4 hp (.l id g off len)):=rfl
theorem Qdz (τ:Nm) (hp:Hp) (id g off len:Nat):BL true τ hp (.l id g off len)=Cd true τ hp (.l id g off len):=rfl
theorem Qde (τ:Nm) (hp:Hp) (id g off len:Nat):B9 true τ hp (.l id g off len)=Ce true τ hp (.l id g off len):=rfl
theorem Qds (τ:Nm) (hp:Hp) (id g off len:Nat):BT true τ hp (.l id g off len)=Cr true τ hp (.l id g off len):=rfl
theorem Qel (τ:Nm) (hp:Hp) (id g off len:Nat):Bw true τ hp (.l id g off len)=AH (BL true τ hp) (.l id g off len):=rfl
theorem QdZ (τ:Nm) (hp:Hp) (id g off len:Nat):B7 true τ hp (.l id g off len)=(∀c∈AV.cells (.l id g off len),B9 true τ hp c):=rfl
theorem Qee (τ:Nm) (hp:Hp) (id g off len:Nat):Bl true τ hp (.l id g off len)=(AV.cells (.l id g off len)).flatMap (BT true τ hp):=rfl
theorem QcQ (τ:Nm) (hp:Hp) (id g n i off:Nat):Cd true τ hp (.p id g n i off)=(match lk τ id with|some (i',gi,ga)=>if g=ga then .p i' gi n i off else .bad|none=>fz 4 hp (.p id g n i off)):=rfl
theorem Qcy (τ:Nm) (hp:Hp) (id g n i off:Nat):Ce true τ hp (.p id g n i off)=(match lk τ id with|some (_,_,ga)=>g=ga|none=>fzP 4 hp (.p id g n i off)):=rfl
theorem QcK (τ:Nm) (hp:Hp) (id g n i off:Nat):Cr true τ hp (.p id g n i off)=(match lk τ id with|some _=>[]|none=>fzR 4 hp (.p id g n i off)):=rfl
theorem Qdx (τ:Nm) (hp:Hp) (id g n i off:Nat):BL true τ hp (.p id g n i off)=Cd true τ hp (.p id g n i off):=rfl
theorem Qdc (τ:Nm) (hp:Hp) (id g n i off:Nat):B9 true τ hp (.p id g n i off)=Ce true τ hp (.p id g n i off):=rfl
theorem Qdq (τ:Nm) (hp:Hp) (id g n i off:Nat):BT true τ hp (.p id g n i off)=Cr true τ hp (.p id g n i off):=rfl
theorem Qej (τ:Nm) (hp:Hp) (id g n i off:Nat):Bw true τ hp (.p id g n i off)=AH (BL true τ hp) (.p id g n i off):=rfl
theorem QdX (τ:Nm) (hp:Hp) (id g n i off:Nat):B7 true τ hp (.p id g n i off)=(∀c∈AV.cells (.p id g n i off),B9 true τ hp c):=rfl
theorem Qec (τ:Nm) (hp:Hp) (id g n i off:Nat):Bl true τ hp (.p id g n i off)=(AV.cells (.p id g n i off)).flatMap (BT true τ hp):=rfl
theorem Qdt (τ:Nm) (hp:Hp) (f:FuncId) (cs:List AV):BL true τ hp (.fn f cs)= .fn f (cs.map (Cd true τ hp)):=rfl
theorem Qc8 (τ:Nm) (hp:Hp) (f:FuncId) (cs:List AV):B9 true τ hp (.fn f cs)=(∀c∈cs,Ce true τ hp c):=rfl
theorem Qdm (τ:Nm) (hp:Hp) (f:FuncId) (cs:List AV):BT true τ hp (.fn f cs)=cs.flatMap (Cr true τ hp):=rfl
theorem Qeh (τ:Nm) (hp:Hp) (f:FuncId) (cs:List AV):Bw true τ hp (.fn f cs)=AH (BL true τ hp) (.fn f cs):=rfl
theorem QdU (τ:Nm) (hp:Hp) (f:FuncId) (cs:List AV):B7 true τ hp (.fn f cs)=(∀c∈AV.cells (.fn f cs),B9 true τ hp c):=rfl
theorem Qd9 (τ:Nm) (hp:Hp) (f:FuncId) (cs:List AV):Bl true τ hp (.fn f cs)=(AV.cells (.fn f cs)).flatMap (BT true τ hp):=rfl
theorem Qeg (τ:Nm) (hp:Hp) (cs:List AV):Bw true τ hp (.agg cs)=AH (BL true τ hp) (.agg cs):=rfl
theorem QdT (τ:Nm) (hp:Hp) (cs:List AV):B7 true τ hp (.agg cs)=(∀c∈AV.cells (.agg cs),B9 true τ hp c):=rfl
theorem Qd8 (τ:Nm) (hp:Hp) (cs:List AV):Bl true τ hp (.agg cs)=(AV.cells (.agg cs)).flatMap (BT true τ hp):=rfl
theorem Qem (τ:Nm) (hp:Hp) (vs:List AV):Bw true τ hp (.tup vs)= .tup (vs.map (fun v=>AH (BL true τ hp) v)):=rfl
theorem Qd0 (τ:Nm) (hp:Hp) (vs:List AV):B7 true τ hp (.tup vs)=(∀v∈vs,∀c∈v.cells,B9 true τ hp c):=rfl
theorem Qef (τ:Nm) (hp:Hp) (vs:List AV):Bl true τ hp (.tup vs)=(vs.flatMap fun v=>v.cells.flatMap (BT true τ hp)):=rfl
theorem QcO (τ:Nm) (hp:Hp) (id g:Nat):Cd true τ hp (.mpO id g)=(match lk τ id with|some (i',gi,ga)=>if g=ga then .mpO i' gi else .bad|none=>fz 4 hp (.mpO id g)):=rfl
theorem Qcw (τ:Nm) (hp:Hp) (id g:Nat):Ce true τ hp (.mpO id g)=(match lk τ id with|some (_,_,ga)=>g=ga|none=>fzP 4 hp (.mpO id g)):=rfl
theorem QcI (τ:Nm) (hp:Hp) (id g:Nat):Cr true τ hp (.mpO id g)=(match lk τ id with|some _=>[]|none=>fzR 4 hp (.mpO id g)):=rfl
theorem Qdv (τ:Nm) (hp:Hp) (id g:Nat):BL true τ hp (.mpO id g)=Cd true τ hp (.mpO id g):=rfl
theorem Qda (τ:Nm) (hp:Hp) (id g:Nat):B9 true τ hp (.mpO id g)=Ce true τ hp (.mpO id g):=rfl
theorem Qdo (τ:Nm) (hp:Hp) (id g:Nat):BT true τ hp (.mpO id g)=Cr true τ hp (.mpO id g):=rfl
theorem Qcj (τ:Nm) (hp:Hp) (v:Value):Cd false τ hp (.lit v)= .lit v:=rfl
theorem Qcp (τ:Nm) (hp:Hp) (v:Value):Ce false τ hp (.lit v)=fzP 0 hp (.lit v):=rfl
theorem QcB (τ:Nm) (hp:Hp) (v:Value):Cr false τ hp (.lit v)=[]:=rfl
theorem QcV (τ:Nm) (hp:Hp) (v:Value):BL false τ hp (.lit v)=Cd false τ hp (.lit v):=rfl
theorem Qc2 (τ:Nm) (hp:Hp) (v:Value):B9 false τ hp (.lit v)=Ce false τ hp (.lit v):=rfl
theorem Qdg (τ:Nm) (hp:Hp) (v:Value):BT false τ hp (.lit v)=Cr false τ hp (.lit v):=rfl
theorem QdH (τ:Nm) (hp:Hp) (v:Value):Bw false τ hp (.lit v)=AH (BL false τ hp) (.lit v):=rfl
theorem QdO (τ:Nm) (hp:Hp) (v:Value):B7 false τ hp (.lit v)=(∀c∈AV.cells (.lit v),B9 false τ hp c):=rfl
theorem Qd3 (τ:Nm) (hp:Hp) (v:Value):Bl false τ hp (.lit v)=(AV.cells (.lit v)).flatMap (BT false τ hp):=rfl
theorem Qcn (τ:Nm) (hp:Hp) (es:List AV) (b:Bool):Cd false τ hp (.sl es b)= .sl es b:=rfl
theorem Qct (τ:Nm) (hp:Hp) (es:List AV) (b:Bool):Ce false τ hp (.sl es b)=fzP 0 hp (.sl es b):=rfl
theorem QcF (τ:Nm) (hp:Hp) (es:List AV) (b:Bool):Cr false τ hp (.sl es b)=[]:=rfl
theorem QcZ (τ:Nm) (hp:Hp) (es:List AV) (b:Bool):BL false τ hp (.sl es b)=Cd false τ hp (.sl es b):=rfl
theorem Qc6 (τ:Nm) (hp:Hp) (es:List AV) (b:Bool):B9 false τ hp (.sl es b)=Ce false τ hp (.sl es b):=rfl
theorem Qdk (τ:Nm) (hp:Hp) (es:List AV) (b:Bool):BT false τ hp (.sl es b)=Cr false τ hp (.sl es b):=rfl
theorem QdJ (τ:Nm) (hp:Hp) (es:List AV) (b:Bool):Bw false τ hp (.sl es b)=AH (BL false τ hp) (.sl es b):=rfl
theorem QdQ (τ:Nm) (hp:Hp) (es:List AV) (b:Bool):B7 false τ hp (.sl es b)=(∀c∈AV.cells (.sl es b),B9 false τ hp c):=rfl
theorem Qd5 (τ:Nm) (hp:Hp) (es:List AV) (b:Bool):Bl false τ hp (.sl es b)=(AV.cells (.sl es b)).flatMap (BT false τ hp):=rfl
theorem Qcl (τ:Nm) (hp:Hp) (cs:List AV):Cd false τ hp (.P cs)= .P cs:=rfl
theorem Qcr (τ:Nm) (hp:Hp) (cs:List AV):Ce false τ hp (.P cs)=fzP 0 hp (.P cs):=rfl
theorem QcD (τ:Nm) (hp:Hp) (cs:List AV):Cr false τ hp (.P cs)=[]:=rfl
theorem QcX (τ:Nm) (hp:Hp) (cs:List AV):BL false τ hp (.P cs)=Cd false τ hp (.P cs):=rfl
theorem Qc4 (τ:Nm) (hp:Hp) (cs:List AV):B9 false τ hp (.P cs)=Ce false τ hp (.P cs):=rfl
theorem Qdi (τ:Nm) (hp:Hp) (cs:List AV):BT false τ hp (.P cs)=Cr false τ hp (.P cs):=rfl
theorem QjQ (τ:Nm) (hp:Hp) (cs:List AV):Bw false τ hp (.P cs)=AH (BL false τ hp) (.P cs):=rfl
theorem QjR (τ:Nm) (hp:Hp) (cs:List AV):Bl false τ hp (.P cs)=(AV.cells (.P cs)).flatMap (BT false τ hp):=rfl
theorem Qco (τ:Nm) (hp:Hp) (id g off len:Nat):Cd false τ hp (.l id g off len)=(match lk τ id with|some (i',gi,ga)=>if g=ga then .l i' gi off len else .bad|none=>fz 4 hp (.l id g off len)):=rfl
theorem Qcu (τ:Nm) (hp:Hp) (id g off len:Nat):Ce false τ hp (.l id g off len)=(match lk τ id with|some (_,_,ga)=>g=ga|none=>fzP 4 hp (.l id g off len)):=rfl
theorem QcG (τ:Nm) (hp:Hp) (id g off len:Nat):Cr false τ hp (.l id g off len)=(match lk τ id with|some _=>[]|none=>fzR 4 hp (.l id g off len)):=rfl
theorem Qc0 (τ:Nm) (hp:Hp) (id g off len:Nat):BL false τ hp (.l id g off len)=Cd false τ hp (.l id g off len):=rfl
theorem Qc7 (τ:Nm) (hp:Hp) (id g off len:Nat):B9 false τ hp (.l id g off len)=Ce false τ hp (.l id g off len):=rfl
theorem Qdl (τ:Nm) (hp:Hp) (id g off len:Nat):BT false τ hp (.l id g off len)=Cr false τ hp (.l id g off len):=rfl
theorem QdK (τ:Nm) (hp:Hp) (id g off len:Nat):Bw false τ hp (.l id g off len)=AH (BL false τ hp) (.l id g off len):=rfl
theorem QdR (τ:Nm) (hp:Hp) (id g off len:Nat):B7 false τ hp (.l id g off len)=(∀c∈AV.cells (.l id g off len),B9 false τ hp c):=rfl
theorem Qd6 (τ:Nm) (hp:Hp) (id g off len:Nat):Bl false τ hp (.l id g off len)=(AV.cells (.l id g off len)).flatMap (BT false τ hp):=rfl
theorem Qcm (τ:Nm) (hp:Hp) (id g n i off:Nat):Cd false τ hp (.p id g n i off)=(match lk τ id with|some (i',gi,ga)=>if g=ga then .p i' gi n i off else .bad|none=>fz 4 hp (.p id g n i off)):=rfl
theorem Qcs (τ:Nm) (hp:Hp) (id g n i off:Nat):Ce false τ hp (.p id g n i off)=(match lk τ id with|some (_,_,ga)=>g=ga|none=>fzP 4 hp (.p id g n i off)):=rfl
theorem QcE (τ:Nm) (hp:Hp) (id g n i off:Nat):Cr false τ hp (.p id g n i off)=(match lk τ id with|some _=>[]|none=>fzR 4 hp (.p id g n i off)):=rfl
theorem QcY (τ:Nm) (hp:Hp) (id g n i off:Nat):BL false τ hp (.p id g n i off)=Cd false τ hp (.p id g n i off):=rfl
theorem Qc5 (τ:Nm) (hp:Hp) (id g n i off:Nat):B9 false τ hp (.p id g n i off)=Ce false τ hp (.p id g n i off):=rfl
theorem Qdj (τ:Nm) (hp:Hp) (id g n i off:Nat):BT false τ hp (.p id g n i off)=Cr false τ hp (.p id g n i off):=rfl
theorem QdI (τ:Nm) (hp:Hp) (id g n i off:Nat):Bw false τ hp (.p id g n i off)=AH (BL false τ hp) (.p id g n i off):=rfl
theorem QdP (τ:Nm) (hp:Hp) (id g n i off:Nat):B7 false τ hp (.p id g n i off)=(∀c∈AV.cells (.p id g n i off),B9 false τ hp c):=rfl
theorem Qd4 (τ:Nm) (hp:Hp) (id g n i off:Nat):Bl false τ hp (.p id g n i off)=(AV.cells (.p id g n i off)).flatMap (BT false τ hp):=rfl
theorem QcU (τ:Nm) (hp:Hp) (f:FuncId) (cs:List AV):BL false τ hp (.fn f cs)= .fn f (cs.map (Cd false τ hp)):=rfl
theorem Qc1 (τ:Nm) (hp:Hp) (f:FuncId) (cs:List AV):B9 false τ hp (.fn f cs)=(∀c∈cs,Ce false τ hp c):=rfl
theorem Qdf (τ:Nm) (hp:Hp) (f:FuncId) (cs:List AV):BT false τ hp (.fn f cs)=cs.flatMap (Cr false τ hp):=rfl
theorem QdG (τ:Nm) (hp:Hp) (f:FuncId) (cs:List AV):Bw false τ hp (.fn f cs)=AH (BL false τ hp) (.fn f cs):=rfl
theorem QdN (τ:Nm) (hp:Hp) (f:FuncId) (cs:List AV):B7 false τ hp (.fn f cs)=(∀c∈AV.cells (.fn f cs),B9 false τ hp c):=rfl
theorem Qd2 (τ:Nm) (hp:Hp) (f:FuncId) (cs:List AV):Bl false τ hp (.fn f cs)=(AV.cells (.fn f cs)).flatMap (BT false τ hp):=rfl
theorem QdF (τ:Nm) (hp:Hp) (cs:List AV):Bw false τ hp (.agg cs)=AH (BL false τ hp) (.agg cs):=rfl
theorem QdM (τ:Nm) (hp:Hp) (cs:List AV):B7 false τ hp (.agg cs)=(∀c∈AV.cells (.agg cs),B9 false τ hp c):=rfl
theorem Qd1 (τ:Nm) (hp:Hp) (cs:List AV):Bl false τ hp (.agg cs)=(AV.cells (.agg cs)).flatMap (BT false τ hp):=rfl
theorem QdL (τ:Nm) (hp:Hp) (vs:List AV):Bw false τ hp (.tup vs)= .tup (vs.map (fun v=>AH (BL false τ hp) v)):=rfl
theorem QdS (τ:Nm) (hp:Hp) (vs:List AV):B7 false τ hp (.tup vs)=(∀v∈vs,∀c∈v.cells,B9 false τ hp c):=rfl
theorem Qd7 (τ:Nm) (hp:Hp) (vs:List AV):Bl false τ hp (.tup vs)=(vs.flatMap fun v=>v.cells.flatMap (BT false τ hp)):=rfl
theorem Qck (τ:Nm) (hp:Hp) (id g:Nat):Cd false τ hp (.mpO id g)=(match lk τ id with|some (i',gi,ga)=>if g=ga then .mpO i' gi else .bad|none=>fz 4 hp (.mpO id g)):=rfl
theorem Qcq (τ:Nm) (hp:Hp) (id g:Nat):Ce false τ hp (.mpO id g)=(match lk τ id with|some (_,_,ga)=>g=ga|none=>fzP 4 hp (.mpO id g)):=rfl
theorem QcC (τ:Nm) (hp:Hp) (id g:Nat):Cr false τ hp (.mpO id g)=(match lk τ id with|some _=>[]|none=>fzR 4 hp (.mpO id g)):=rfl
theorem QcW (τ:Nm) (hp:Hp) (id g:Nat):BL false τ hp (.mpO id g)=Cd false τ hp (.mpO id g):=rfl
theorem Qc3 (τ:Nm) (hp:Hp) (id g:Nat):B9 false τ hp (.mpO id g)=Ce false τ hp (.mpO id g):=rfl
theorem Qdh (τ:Nm) (hp:Hp) (id g:Nat):BT false τ hp (.mpO id g)=Cr false τ hp (.mpO id g):=rfl
theorem Qgu (L:List Nat) (v:Value):Cu true L (.lit v)=True:=xx7
theorem QgG (L:List Nat) (v:Value):FA true L (.lit v)=(∀c∈AV.cells (.lit v),Cu true L c):=rfl
theorem Qgv (L:List Nat) (id g off len:Nat):Cu true L (.l id g off len)=(id∈L):=xx7
theorem QgH (L:List Nat) (id g off len:Nat):FA true L (.l id g off len)=(∀c∈AV.cells (.l id g off len),Cu true L c):=rfl
theorem QgF (L:List Nat) (cs:List AV):FA true L (.agg cs)=(∀c∈AV.cells (.agg cs),Cu true L c):=rfl
theorem QgI (L:List Nat) (vs:List AV):FA true L (.tup vs)=(∀v∈vs,∀c∈v.cells,Cu true L c):=rfl
theorem Qgi (L:List Nat) (v:Value):Cu false L (.lit v)=True:=xx7
theorem QgA (L:List Nat) (v:Value):FA false L (.lit v)=(∀c∈AV.cells (.lit v),Cu false L c):=rfl
theorem Qgm (L:List Nat) (es:List AV) (b:Bool):Cu false L (.sl es b)=True:=xx7
theorem QgC (L:List Nat) (es:List AV) (b:Bool):FA false L (.sl es b)=(∀c∈AV.cells (.sl es b),Cu false L c):=rfl
theorem Qgk (L:List Nat) (cs:List AV):Cu false L (.P cs)=True:=xx7
theorem Qgn (L:List Nat) (id g off len:Nat):Cu false L (.l id g off len)=(id∈L):=xx7
theorem QgD (L:List Nat) (id g off len:Nat):FA false L (.l id g off len)=(∀c∈AV.cells (.l id g off len),Cu false L c):=rfl
theorem Qgl (L:List Nat) (id g n i off:Nat):Cu false L (.p id g n i off)=(id∈L):=xx7
theorem QgB (L:List Nat) (id g n i off:Nat):FA false L (.p id g n i off)=(∀c∈AV.cells (.p id g n i off),Cu false L c):=rfl
theorem Qgh (L:List Nat) (f:FuncId) (cs:List AV):Cu false L (.fn f cs)=(∀c∈cs,match c with| .l id _ _ _=>id∈L| .p id _ _ _ _=>id∈L| .lit _| .sl _ _| .P _| .gl _=>True|_=>False):=propext ⟨fun h=>h.2,fun h=>⟨rfl,h⟩⟩
theorem Qgz (L:List Nat) (f:FuncId) (cs:List AV):FA false L (.fn f cs)=(∀c∈AV.cells (.fn f cs),Cu false L c):=rfl
theorem Qgy (L:List Nat) (cs:List AV):FA false L (.agg cs)=(∀c∈AV.cells (.agg cs),Cu false L c):=rfl
theorem QgE (L:List Nat) (vs:List AV):FA false L (.tup vs)=(∀v∈vs,∀c∈v.cells,Cu false L c):=rfl
theorem Qgj (L:List Nat) (id g:Nat):Cu false L (.mpO id g)=(id∈L):=xx7
theorem Qgs (k':Bool) (L:List Nat) (t k:Nat) (es:List AV):Px k' L (.own t k es)=(∀e∈es,∀c∈e.cells,Cu k' L c):=rfl
theorem Qgq (k':Bool) (L:List Nat) (cs:List AV):Px k' L (.box cs)=(∀c∈cs,Cu k' L c):=rfl
theorem Qgr (k':Bool) (L:List Nat) (es:List (ByteArray×AV)):Px k' L (.ms es)=LX es:=rfl
theorem Qgo (k':Bool) (L:List Nat):LR k' L []=True:=rfl
theorem Qgp (k':Bool) (L:List Nat) (i g:Nat) (ob:Ob) (h:Hp):LR k' L ((i,some (g,ob))::h)=(Px k' L ob/\LR k' L h):=rfl
theorem ya (n:Nat):IL (.tmp n)=false:=rfl
theorem x7 (k:IntKind) (n:Int):IL (.const (.int k n))=false:=rfl
theorem x9 (s:ByteArray):IL (.const (.string s))=false:=rfl
theorem x8:IL (.const (.slice none 0 0))=true:=rfl
theorem x6 (n:Nat):Jh (.tmp n)=false:=rfl
theorem xY (k:IntKind) (n:Int):Jh (.const (.int k n))=false:=rfl
theorem x5 (s:ByteArray):Jh (.const (.string s))=false:=rfl
theorem xZ (a:Option Addr) (n m:Nat):Jh (.const (.slice a n m))=false:=rfl
theorem oS (op:BinOp) (ti:TI) (x:AV) (r:R):N9 false op ti x r=r:=rfl
theorem oR (op:BinOp) (ti:TI) (x y:AV):La false op ti x y=N8 op ti x y:=rfl
theorem oQ (ti:TI) (es:List AV) (f:Bool) (y:AV):La true .eql ti (.sl es f) y=(match ti.ty with| .slice _=> .val (0<es.length) (.lit (.bool false))|_=> .no):=by unfold La;cases ti.ty<;>rfl
theorem sq (T:AE) (n:Nat):glob T (.gl n)=(match JE T.gl n with|some cs=> .P cs|none=> .gl n):=rfl
theorem sE (T:AE) (es:List AV) (b:Bool):glob T (.sl es b)= .sl es b:=rfl
theorem su (T:AE) (cs:List AV):glob T (.P cs)= .P cs:=rfl
theorem sF (T:AE) (id g off len:Nat):glob T (.l id g off len)= .l id g off len:=rfl
theorem sD (T:AE) (id g n i off:Nat):glob T (.p id g n i off)= .p id g n i off:=rfl
theorem QeU (off:Nat) (u:AV) (t k:Nat) (es:List AV):QR (.kid t k es) off u=u:=rfl
theorem QeT (off:Nat) (u:AV) (cs:List AV):QR (.agg cs) off u= .agg (cs.set off u):=rfl
theorem Qbn {es:List AV} (h:PE es) (hp:Hp):es.map (AH (fz 0 hp))=es:=h.fz 0 hp
theorem Qbp {es:List AV} (h:PE es) (hp:Hp):(∀e∈es,∀c∈e.cells,fzP 0 hp c)=True:=eq_true (h.fzP 0 hp)
theorem Qbo {es:List AV} (h:PE es) (hp:Hp):es.map (AH (fz 3 hp))=es:=h.fz 3 hp
theorem Qbq {es:List AV} (h:PE es) (hp:Hp):(∀e∈es,∀c∈e.cells,fzP 3 hp c)=True:=eq_true (h.fzP 3 hp)
theorem Qbr {es:List AV} (h:PE es) (hp:Hp):(es.flatMap fun e=>e.cells.flatMap (fzR 3 hp))=[]:=h.fzR 3 hp
theorem Qbk {es:List AV} (h:PE es) (hp:Hp):es.map (AH (att hp))=es:=h.att hp
theorem Qbl {es:List AV} (h:PE es) (hp:Hp):(∀e∈es,∀c∈e.cells,attP hp c)=True:=eq_true (h.attP hp)
theorem Qbm {es:List AV} (h:PE es):esR es=[]:=h.esR
theorem Qbx {es:List AV} (h:PE es) (τ:Nm) (hp:Hp):es.map (AH (rnK true τ hp))=es:=h.rnK true τ hp
theorem Qbu {es:List AV} (h:PE es) (τ:Nm) (hp:Hp):(∀e∈es,∀c∈e.cells,rnKP true τ hp c)=True:=eq_true (h.rnKP true τ hp)
theorem Qbw {es:List AV} (h:PE es) (τ:Nm) (hp:Hp):(es.flatMap fun e=>e.cells.flatMap (rnKR true τ hp))=[]:=h.rnKR true τ hp
theorem Qbs {es:List AV} (h:PE es) (τ:Nm) (hp:Hp):es.map (AH (rnK false τ hp))=es:=h.rnK false τ hp
theorem Qbt {es:List AV} (h:PE es) (τ:Nm) (hp:Hp):(∀e∈es,∀c∈e.cells,rnKP false τ hp c)=True:=eq_true (h.rnKP false τ hp)
theorem Qbv {es:List AV} (h:PE es) (τ:Nm) (hp:Hp):(es.flatMap fun e=>e.cells.flatMap (rnKR false τ hp))=[]:=h.rnKR false τ hp
theorem Qby {es:List AV} (h:PE es) (L:List Nat):(∀e∈es,∀c∈e.cells,Cu false L c)=True:=eq_true (h.tr L)
theorem qy (e:AV) (es:List AV):esR (e::es)=e.cells.flatMap Dj++esR es:=rfl
theorem Qil (l:List Int):(∀e∈As l,∀c∈e.cells,SJ c)=True:=by refine eq_true fun e he c hc=>?_;simp only[As,List.mem_map] at he;obtain⟨x,_,rfl⟩:=he;simp only[AV.cells,List.mem_singleton] at hc;subst hc;trivial
theorem Qgt (L:List Nat) (l:List Int):(∀e∈As l,∀c∈e.cells,Cu true L c)=True:=by refine eq_true fun e he c hc=>?_;simp only[As,List.mem_map] at he;obtain⟨x,_,rfl⟩:=he;simp only[AV.cells,List.mem_singleton] at hc;subst hc;trivial
theorem Qbe:Jl 0 []=true:=rfl
theorem Qbf (x0:Operand):Jl 1 [(0,x0)]=true:=rfl
theorem Qbg (x0 x1:Operand):Jl 2 [(0,x0),(1,x1)]=true:=rfl
theorem Qbh (x0 x1 x2:Operand):Jl 3 [(0,x0),(1,x1),(2,x2)]=true:=rfl
theorem Qbi (x0 x1 x2 x3:Operand):Jl 4 [(0,x0),(1,x1),(2,x2),(3,x3)]=true:=rfl
theorem Qbj (x0 x1 x2 x3 x4:Operand):Jl 5 [(0,x0),(1,x1),(2,x2),(3,x3),(4,x4)]=true:=rfl
theorem all_cons {α:Type} {p:α->Prop} {x:α} {l:List α}:(∀y∈x::l,p y)=(p x/\∀y∈l,p y):=sM
theorem all_nil {α:Type} {p:α->Prop}:(∀y∈([]:List α),p y)=True:=sM
theorem zx {a b:Nat} {l:List Nat}:(a∈b::l)=(a=b\/a∈l):=sM
theorem zy {a:Nat}:(a∈([]:List Nat))=False:=sM
theorem ni {l:List Int}:(∀y∈As l,y.cells.length=1)=True:=eq_true xU
theorem nh {α:Type} {p:α->Prop} {l r:List α}:(∀y∈l++r,p y)=((∀y∈l,p y)/\∀y∈r,p y):=by
 apply propext;simp only[List.mem_append];constructor
 .intro h;exact⟨fun y hy=>h y (.inl hy),fun y hy=>h y (.inr hy)⟩
 rintro⟨h1,h2⟩ y (hy|hy)
 .exact h1 y hy
 exact h2 y hy
theorem mR:PE []=True:=eq_true mQ
theorem mO (l:List Int):PE (As l)=True:=eq_true (mN l)
theorem mD (v:Value):PC (.lit v)=True:=rfl
theorem mE (es:List AV):PC (.sl es false)=True:=eq_true rfl
theorem mL (e:AV) (es:List AV):PE (e::es)=((∀c∈e.cells,PC c)/\PE es):=propext mK
theorem mG (es fs:List AV):PE (es++fs)=(PE es/\PE fs):=propext mF
theorem ints_set {l:List Int} {j:Nat} {v:Int}:(As l).set j (.lit (.int .i64 v))=As (l.set j v):=by simp[As,List.map_set,I]
theorem xV {l:List Int} {v:Int}:As l++[.lit (.int .i64 v)]=As (l++[v]):=xv6
theorem gZ {l:List Int} {n:Nat}:(As l).drop n=As (l.drop n):=xv6
theorem O5 {l:List Int} {n:Nat}:(As l).take n=As (l.take n):=xv6
section
variable {C:Cx} {T:AE} {s:St} {r:AV}
theorem M4 {id:Nat} {l:List Oper} {Q:Exit->St->Prop} (hC:Cn C T) (hm:C.P.follows .mixedOrders=true)
  (hs:MT l=true) (hd:(l.all fun o=>decide (o.dst.getD 0<C.N))=true)
  (h:∀K:St->Prop,(∀s',Q .normal s'->K s')->Io C.P T l l s [] (fun s' rs=>M7 (KS l []) rs=true/\K s')):BD C (.region id l.toArray true) Q s:=
 aX hC hm hs hd h
theorem bV {c:Operand} {x y:Code} {Q:Exit->St->Prop} (hc:s.ev c= .lit (.bool true)) (ht:BD C x Q s):BD C (.cond c x y) Q s:=
 V5 true hc (fun _=>ht) (fun h=>vx0)
theorem bU {c:Operand} {x y:Code} {Q:Exit->St->Prop} (hc:s.ev c= .lit (.bool false)) (ht:BD C y Q s):BD C (.cond c x y) Q s:=
 V5 false hc (fun h=>vx0) (fun _=>ht)
theorem iJ:CR []:=⟨List.nodup_nil,List.nodup_nil⟩
theorem QO {a:Nat} (h1:B7 true [] s.hp (AC s.tm a)) (h2:Bw true [] s.hp (AC s.tm a)=r):∃σ D,IT T [.tmp a] σ D [] r s:=
 ⟨[],_,trivial,iJ,nofun,trivial,nofun,h1,fun _ h=>h,fun _ _=>rfl,h2,rfl⟩
theorem U9 {rs:List ResultVar} (h0:(Bv T s rs).1) (h1:B7 true [] s.hp (Bv T s rs).2) (h2:Bw true [] s.hp (Bv T s rs).2=r):∃σ D,IT T rs σ D [] r s:=
 ⟨[],_,h0,iJ,nofun,trivial,nofun,h1,fun _ h=>h,fun _ _=>rfl,h2,rfl⟩
theorem DB {rs:List ResultVar} {hp':Hp} (σ:Nm) (h0:(Bv T s rs).1) (EY:(σ.map (·.1)).Nodup) (EZ:(σ.map (·.2.2.1)).Nodup) (hg:∀q∈σ,(q.2.1=0/\q.2.2.1=q.1/\q.2.2.2=0)\/q.2.1=1)
  (hP:A9 true σ s.hp σ) (h1:B7 true σ s.hp (Bv T s rs).2) (hd:∀d∈AT true σ s.hp σ++Bl true σ s.hp (Bv T s rs).2,lk σ d=none)
  (h2:Bw true σ s.hp (Bv T s rs).2=r) (h3:A7 true σ s.hp=hp'):∃σ D,IT T rs σ D hp' r s:=
 ⟨σ,_,h0,⟨EY,EZ⟩,hg,hP,fun _ h=>List.mem_append_left _ h,h1,fun _ h=>List.mem_append_right _ h,hd,h2,h3⟩
section
variable {P:Program} {f:FuncId} {g:Nat} {hp:Hp} {vs:List AV} {rc:AV} {K:AV->List Up->List Nat->Prop}
def Jx (τ:Nm) (hp:Hp):List AV->Prop
 |[]=>True|v::vs=>B7 true τ hp v/\Jx τ hp vs
theorem Jx.all {τ:Nm} {hp:Hp}:∀{vs:List AV},Jx τ hp vs->∀v∈vs,B7 true τ hp v
 |[],_,v,hv=>by cases hv
 |u::us,h,v,hv=>by
  rcases List.mem_cons.1 hv with rfl|hv
  .exact h.1
  exact Jx.all h.2 v hv
theorem TE (τ σ:Nm) (keep:Bool) {hp1:Hp} (EY:(τ.map (·.1)).Nodup) (EZ:(τ.map (·.2.2.1)).Nodup) (hg:∀q∈τ,q.2.1=0) (hP:A9 true τ hp τ) (hs:Jx τ hp vs)
  (hd:∀d∈AT true τ hp τ++vs.flatMap (Bl true τ hp),lk τ d=none) (h:Ag P T f (A7 true τ hp) (vs.map (Bw true τ hp)) hp1 rc)
  (Fo:(σ.map (·.1)).Nodup) (HE:(σ.map (·.2.2.1)).Nodup) (IA:∀q∈σ,(q.2.2.2=0/\(q.2.2.1,0,q.1,q.2.1)∈τ)\/(q.2.2.2=1/\q.2.1=g))
  (Xl:A9 false σ hp1 σ) (Xm:AT false σ hp1 σ=[]) (OU:B7 false σ hp1 rc) (OV:Bl false σ hp1 rc=[])
  (JY:LR keep (Em τ σ (AT true τ hp τ++vs.flatMap (Bl true τ hp)) keep) (A7 false σ hp1)) (Ih:FA keep (Em τ σ (AT true τ hp τ++vs.flatMap (Bl true τ hp)) keep) (Bw false σ hp1 rc))
  (hK:K (Bw false σ hp1 rc) (A7 false σ hp1++drops ((Em τ σ (AT true τ hp τ++vs.flatMap (Bl true τ hp)) keep).filter fun i=>!(σ.map (·.1)).contains i)) (τ.map (·.2.2.1)++(AT true τ hp τ++vs.flatMap (Bl true τ hp)))):IR P T f g hp vs K:=
 ⟨τ,σ,_,keep,hp1,rc,⟨⟨EY,EZ⟩,hg,hP,fun _ h=>List.mem_append_left _ h,hs.all,fun v hv d hd=>List.mem_append_right _ (List.mem_flatMap.2 ⟨v,hv,hd⟩),hd,h,⟨Fo,HE⟩,IA,Xl,
  fun d hd=>(by rw[Xm] at hd;cases hd),OU,fun d hd=>(by rw[OV] at hd;cases hd),JY,Ih⟩,hK⟩
theorem JA (hs:Jx [] hp vs) (h:Ag P T f [] (vs.map (Bw true [] hp)) [] rc) (OU:B7 false [] [] rc) (OV:Bl false [] [] rc=[]) (ht:FA true [] (Bw false [] [] rc))
  (hK:K (Bw false [] [] rc) [] (vs.flatMap (Bl true [] hp))):IR P T f g hp vs K:=
 TE [] [] true List.nodup_nil List.nodup_nil nofun trivial hs (fun _ _=>rfl) h List.nodup_nil List.nodup_nil nofun trivial rfl OU OV trivial ht hK
theorem qK (l:List Nat):(l.filter fun i=>!([]:List Nat).contains i)=l:=sM
theorem bz (hs:Jx [] hp vs) (h:Ag P T f [] (vs.map (Bw true [] hp)) [] rc) (OU:B7 false [] [] rc) (OV:Bl false [] [] rc=[]) (ht:FA false (vs.flatMap (Bl true [] hp)) (Bw false [] [] rc))
  (hK:K (Bw false [] [] rc) (drops (vs.flatMap (Bl true [] hp))) (vs.flatMap (Bl true [] hp))):IR P T f g hp vs K:=
 TE [] [] false List.nodup_nil List.nodup_nil nofun trivial hs (fun _ _=>rfl) h List.nodup_nil List.nodup_nil nofun trivial rfl OU OV trivial ht (by
  have e1:(Em [] [] (AT true [] hp []++vs.flatMap (Bl true [] hp)) false).filter (fun i=>!(([]:Nm).map (·.1)).contains i)=vs.flatMap (Bl true [] hp):=qK _;rw[e1];exact hK)
theorem CY {id ga:Nat} {cs AO:List AV} (hg:hp.get id=some (ga, .box cs))
  (h:Ag P T f [(0,some (0, .box (cs.map (BL true [(0,0,id,ga)] hp))))] (.p 0 0 0 0 0::vs.map (Bw true [(0,0,id,ga)] hp)) [(0,some (0, .box AO))] rc)
  (hs:(∀c∈cs,B9 true [(0,0,id,ga)] hp c)/\Jx [(0,0,id,ga)] hp vs)
  (hd:∀d∈cs.flatMap (BT true [(0,0,id,ga)] hp)++vs.flatMap (Bl true [(0,0,id,ga)] hp),id≠d)
  (hb:(∀c∈AO,B9 false [(id,ga,0,0)] [(0,some (0, .box AO))] c)/\B7 false [(id,ga,0,0)] [(0,some (0, .box AO))] rc)
  (hr:AO.flatMap (BT false [(id,ga,0,0)] [(0,some (0, .box AO))])=[]/\Bl false [(id,ga,0,0)] [(0,some (0, .box AO))] rc=[])
  (ht:(∀c∈AO.map (BL false [(id,ga,0,0)] [(0,some (0, .box AO))]),Cu false [id] c)/\FA false [id] (Bw false [(id,ga,0,0)] [(0,some (0, .box AO))] rc))
  (hK:K (Bw false [(id,ga,0,0)] [(0,some (0, .box AO))] rc) ((id,some (ga, .box (AO.map (BL false [(id,ga,0,0)] [(0,some (0, .box AO))]))))::drops (cs.flatMap (BT true [(0,0,id,ga)] hp)++vs.flatMap (Bl true [(0,0,id,ga)] hp)))
   (id::(cs.flatMap (BT true [(0,0,id,ga)] hp)++vs.flatMap (Bl true [(0,0,id,ga)] hp)))):IR P T f g hp (.p id ga 0 0 0::vs) K:=by
 have e1:AT true [(0,0,id,ga)] hp [(0,0,id,ga)]=cs.flatMap (BT true [(0,0,id,ga)] hp):=vq8;have e2:Bl true [(0,0,id,ga)] hp (.p id ga 0 0 0)=[]:=by simp[Bl,Po,AV.cells,BT,Cr,lk]
 have e3:Bw true [(0,0,id,ga)] hp (.p id ga 0 0 0)= .p 0 0 0 0 0:=by simp[Bw,Pn,AH,BL,Cd,lk]
 have e4:A7 true [(0,0,id,ga)] hp=[(0,some (0, .box (cs.map (BL true [(0,0,id,ga)] hp))))]:=by simp[A7,hg,BZ]
 have e5:A7 false [(id,ga,0,0)] [(0,some (0, .box AO))]=[(id,some (ga, .box (AO.map (BL false [(id,ga,0,0)] [(0,some (0, .box AO))]))))]:=by simp[A7,Hp.get,BZ]
 have e6:AT false [(id,ga,0,0)] [(0,some (0, .box AO))] [(id,ga,0,0)]=[]:=by simp only[AT,Hp.get,if_true,BM,hr.1,List.append_nil]
 generalize hD:cs.flatMap (BT true [(0,0,id,ga)] hp)++vs.flatMap (Bl true [(0,0,id,ga)] hp)=D at hd hK;have e7:AT true [(0,0,id,ga)] hp [(0,0,id,ga)]++(AV.p id ga 0 0 0::vs).flatMap (Bl true [(0,0,id,ga)] hp)=D:=by rw[List.flatMap_cons,e1,e2,List.nil_append,hD]
 have e8:(Em [(0,0,id,ga)] [(id,ga,0,0)] D false).filter (fun i=>!(([(id,ga,0,0)]:Nm).map (·.1)).contains i)=D:=by
  simp only[Em,List.map_cons,List.map_nil,Bool.false_eq_true,if_false,List.cons_append,List.nil_append];have h1:∀d∈D,(!([id]:List Nat).contains d)=true:=fun d Nt=>by have:=hd d Nt;simp[Ne.symm this]
  simp only[List.filter_cons];rw[List.filter_eq_self.2 h1];simp
 have tmono:∀c,Cu false [id] c->Cu false (Em [(0,0,id,ga)] [(id,ga,0,0)] D false) c:=by
  have hm:∀x,x∈[id]->x∈Em [(0,0,id,ga)] [(id,ga,0,0)] D false:=fun x hx=>by simp only[List.mem_singleton] at hx;subst hx;simp[Em]
  intro c h;cases c with
  |l=>exact hm _ h|p=>exact hm _ h|mpO=>exact hm _ h|fn f cs=>
   refine⟨rfl,fun c hc=>?_⟩;have:=h.2 c hc;cases c with
   |l=>exact hm _ this|p=>exact hm _ this|_=>exact this
  |_=>exact h
 refine TE [(0,0,id,ga)] [(id,ga,0,0)] false (hp1:=[(0,some (0, .box AO))]) sM sM sM ?_ ?_ ?_ ?_ sM sM sM ?_ e6 hb.2 hr.2 ?_ ?_ ?_
 .simp only[A9,hg,BR,and_true,true_and];exact hs.1
 .refine⟨?_,hs.2⟩;simp[B7,QP,AV.cells,B9,Ce,lk]
 .rw[e7];intro d Nt;simp only[lk,iN (hd d Nt)]
 .rw[e4,List.map_cons,e3];exact h
 .simp only[A9,Hp.get,if_true,BR,and_true,true_and];exact hb.1
 .rw[e7,e5];refine⟨fun c hc=>tmono c (ht.1 c hc),trivial⟩
 .rw[e7];have h2:=ht.2;generalize Bw false [(id,ga,0,0)] [(0,some (0,Ob.box AO))] rc=v at h2;cases v with
  |tup vs=>exact fun u hu c hc=>tmono c (h2 u hu c hc)|_=>exact fun c hc=>tmono c (h2 c hc)
 rw[e7,e5,e8];exact hK
theorem MR {a:Nat} {cs AO:List AV} (hg:s.hp.get 0=some (0, .box cs)) (h1:(∀c∈cs,B9 true [(0,0,0,0)] s.hp c)/\B7 true [(0,0,0,0)] s.hp (AC s.tm a))
  (hd:∀d∈cs.flatMap (BT true [(0,0,0,0)] s.hp)++Bl true [(0,0,0,0)] s.hp (AC s.tm a),0≠d) (h2:Bw true [(0,0,0,0)] s.hp (AC s.tm a)=r) (h3:cs.map (BL true [(0,0,0,0)] s.hp)=AO):
  ∃σ D,IT T [.tmp a] σ D [(0,some (0, .box AO))] r s:=by
 have e1:AT true [(0,0,0,0)] s.hp [(0,0,0,0)]=cs.flatMap (BT true [(0,0,0,0)] s.hp):=vq8;have e4:A7 true [(0,0,0,0)] s.hp=[(0,some (0, .box (cs.map (BL true [(0,0,0,0)] s.hp))))]:=by simp[A7,hg,BZ]
 refine DB [(0,0,0,0)] trivial sM sM sM ?_ h1.2 ?_ h2 (by rw[e4,h3])
 .simp only[A9,hg,BR,and_true,true_and];exact h1.1
 rw[e1];intro d Nt;have:=hd d Nt;simp only[lk,iN this]
end
end
attribute [go_sem] pn pt pm pq pu pr pj pg po QaC Qab QaG Qaf QaE Qad QaH Qag QaF Qae QaA Qaa QaD Qac zr zv zt zw zu zq Qj5 rf rq ru rt rv rh rx rF ri rz rG ry rj rA rH ro rD rK rm rB rI rp rE rL rn rC rJ rX rS rV rZ rT rW Qi4 Qi3 r7 rU nN nE nJ nP nF nK nQ nG nL QeY Qe0 Qe2 QeZ Qe1 Qe3 Qjf QcN Qcv QcH Qdu Qc9 Qdn QdC QdA QdB Qei QdV Qea QcR Qcz QcL Qdy Qdd Qdr Qek QdY Qed QcP Qcx QcJ Qdw Qdb Qdp QjT QdW Qeb QcS QcA QcM Qdz Qde Qds Qel QdZ Qee QcQ Qcy QcK Qdx Qdc Qdq Qej QdX Qec Qdt Qc8 Qdm Qeh QdU Qd9 Qeg QdT Qd8 Qem Qd0 Qef QcO Qcw QcI Qdv Qda Qdo Qcj Qcp QcB QcV Qc2 Qdg QdH QdO Qd3 Qcn Qct QcF QcZ Qc6 Qdk QdJ QdQ Qd5 Qcl Qcr QcD QcX Qc4 Qdi QjQ QjR Qco Qcu QcG Qc0 Qc7 Qdl QdK QdR Qd6 Qcm Qcs QcE QcY Qc5 Qdj QdI QdP Qd4 QcU Qc1 Qdf QdG QdN Qd2 QdF QdM Qd1 QdL QdS Qd7 Qck Qcq QcC QcW Qc3 Qdh Qgu QgG Qgv QgH QgF QgI Qgi QgA Qgm QgC Qgk Qgn QgD Qgl QgB Qgh Qgz Qgy QgE Qgj Qgs Qgq Qgr Qgo Qgp ya x7 x9 x8 x6 xY x5 xZ oS oR oQ sq sE su sF sD QeU QeT Qbn Qbp Qbo Qbq Qbr Qbk Qbl Qbm Qbx Qbu Qbw Qbs Qbt Qbv Qby qy Qgt Qbe Qbf Qbg Qbh Qbi Qbj zx zy forall_eq_or_imp forall_eq ni nh mR mO mD mE mL mG ints_set xV
attribute [go_sem ↓] all_cons all_nil
attribute [go_sem] all_cons all_nil
open Go
attribute [go_sem] Zc TI.zav ZC.val am al ak ah an ag af ae ac c9 cY mq my lW mj mg mn mh MM KY MN QB Bool.or_false Bool.false_or lG ML LM mw mr mu ma mf mA md mb mc mz mi mm lZ lQ lX lY l9 me lS l8 mo lI lL lr lK lJ lz lD lN lB lA lM lE lF lx li lu lw lC lj lH lV lq lU lT lm l6 l7 lh ly qC QbY QbW qD qA qB Qau Qat Qax Qav Qaw Qa8 Qa6 Qa7 Qa5 Qa3 Qa4 c9 cY eg am al ak ah an ag af ae ac drops eg R.val AC Value.oneCell' N8 Rb PQ Wg Rc Ra Ec Mc LZ KX Fx NW E7 MK NV Sym.elemOf Ka Pg SV NX J9 Pf Hp.get Hp.has lk JE Fz IX N4 Option.map_some Option.map_none Option.getD_some Option.getD_none Option.bind_some List.getElem?_cons_zero List.getElem?_cons_succ List.length_cons List.length_nil List.length_map List.getD_cons_zero List.getD_cons_succ List.map_cons List.map_nil List.flatMap_cons List.flatMap_nil List.append_nil List.nil_append List.singleton_append List.cons_append lR if_true if_false true_and and_true Bool.false_eq_true not_false_eq_true not_true_eq_false eq_self HL Qer Int.toNat_natCast Mf List.take_succ_cons List.take_zero List.drop_zero List.drop_succ_cons List.drop_nil Nat.add_zero Nat.zero_add decide_true decide_false Bool.not_true Bool.not_false List.length_range List.length_set aL List.length_replicate List.foldl_cons List.foldl_nil ZC.av DL List.set_cons_zero List.set_cons_succ Jx
open Go Go.Great
theorem iW {P:Program} {T:AE} {o:Oper} {s:St} {K:St->Prop} {K':AV->List Up->List Nat->Prop} (h:KW P T o s K) (hK:∀v ups acc,K (s.put o.dst v ups)->K' v ups acc):LL P T o s K':=by
 unfold KW at h;unfold LL;split at h
 .rename_i f args at_ heq;first|(rw[heq];simp only)|skip
  split at h
  .rename_i fid vs hf;obtain⟨τ,σ,D,keep,hp1,rc,h1,h2⟩:=h;have I6:Nh (s.ev f) (args.toList.map s.ev)=some (fid,vs):=by simpa[Mf] using hf
   rw[I6];exact⟨τ,σ,D,keep,hp1,rc,h1,hK _ _ _ h2⟩
  exact h.elim
 rename_i Bj;first
 |exact⟨h.1,hK _ _ _ h.2⟩
 |(split
   ·rename_i f args at_ heq;exact(Bj _ _ _ heq).elim
   exact⟨h.1,hK _ _ _ h.2⟩)
def tot:List Eo->Nat
 |[]=>0|r::rs=>r.1.length+tot rs
theorem kC:∀{rs:List Eo},tot rs=0->rs.all (fun r=>r.1.isEmpty)=true
 |[],_=>rfl|r::rs,h=>by simp only[tot] at h;rw[List.all_cons,kC oM];simp[show r.1=[] from List.length_eq_zero_iff.1 oM]
theorem Zk (s:St) (d:Option Nat) (v:AV) (ups:List Up):(s.put d v ups).hp.length=ups.length+s.hp.length:=by simp[St.put]
theorem Tv {P:Program} {T:AE} {all:List Oper} {K:St->Prop}:∀(Ae:List Oper) (s:St) (K':St->List Eo->Prop),DX P T all Ae s K->
  (∀s' rs,s'.hp.length=s.hp.length+tot rs->K s'->K' s' rs)->Ho P T all Ae s K'
 |[],s,K',h,hK=>hK s [] rfl h|o::Ae,s,K',h,hK=>by
  unfold DX at h;unfold Ho;have step:∀v ups (acc:List Nat),DX P T all Ae (s.put o.dst v ups) K->Ho P T all Ae (s.put o.dst v ups) fun s' rs=>K' s' ((ups.map (·.1),acc)::rs):=fun v ups acc h'=>
   Tv Ae _ _ h' fun s' rs h1 h2=>hK s' _ (by rw[h1,Zk];simp[tot];omega) h2
  cases hg:o.guard with
  |none=>rw[hg] at h;exact iW h step|some q=>
   obtain⟨j,want⟩:=q;rw[hg] at h;simp only[GM] at h ⊢;split at h
   .rename_i b heq;exact⟨fun hb=>iW (h.1 hb) step,fun hb=>Tv Ae _ _ (h.2 hb) fun s' rs h1 h2=>hK s' _ (by rw[h1,Zk];simp[tot]) h2⟩
   .rename_i heq;exact Tv Ae _ _ h fun s' rs h1 h2=>hK s' _ (by rw[h1,Zk];simp[tot]) h2
   exact h.elim
theorem Tx {C:Cx} {T:AE} {id:Nat} {l:List Oper} {Q:Exit->St->Prop} {s:St} (hC:Cn C T) (hm:C.P.follows .mixedOrders=true)
  (hs:MT l=true) (hd:(l.all fun o=>decide (o.dst.getD 0<C.N))=true)
  (h:∀K:St->Prop,(∀s',Q .normal s'->K s')->DX C.P T l l s (fun s'=>s'.hp.length=s.hp.length/\K s')):BD C (.region id l.toArray true) Q s:=
 aX hC hm hs hd fun K hK=>Tv l s _ (h K hK) fun s' rs h1 ⟨h2,h3⟩=>⟨by
  unfold M7;rw[kC oM,Bool.true_or],h3⟩
open Go
theorem CE {C:Cx} {ι:Type} {c d:Code} {Q:Exit->St->Prop} {s:St} (inv:ι->St) (ok:ι->Prop)
  (h1:BD C c (N4 (fun s'=>∃i,ok i/\Jy s' (inv i)) Q) s) (h2:∀i,ok i->BD C d Q (inv i)):BD C c (N4 (BD C d Q) Q) s:=by
 refine aW h1 fun e s' h=>?_;cases e with
 |normal=>obtain⟨i,hi,hw⟩:=h;exact L3 hw (h2 i hi)
 |_=>exact h
open Go
section
variable {T:AE} {s:St} {r:AV}
theorem Pm {rs:List ResultVar} {cs AO:List AV} (h0:(Bv T s rs).1) (hg:s.hp.get 0=some (0, .box cs)) (h1:(∀c∈cs,B9 true [(0,0,0,0)] s.hp c)/\B7 true [(0,0,0,0)] s.hp (Bv T s rs).2)
  (hd:∀d∈cs.flatMap (BT true [(0,0,0,0)] s.hp)++Bl true [(0,0,0,0)] s.hp (Bv T s rs).2,0≠d) (h2:Bw true [(0,0,0,0)] s.hp (Bv T s rs).2=r) (h3:cs.map (BL true [(0,0,0,0)] s.hp)=AO):
  ∃σ D,IT T rs σ D [(0,some (0, .box AO))] r s:=by
 have e1:AT true [(0,0,0,0)] s.hp [(0,0,0,0)]=cs.flatMap (BT true [(0,0,0,0)] s.hp):=vq8;have e4:A7 true [(0,0,0,0)] s.hp=[(0,some (0, .box (cs.map (BL true [(0,0,0,0)] s.hp))))]:=by simp[A7,hg,BZ]
 refine DB [(0,0,0,0)] h0 sM sM sM ?_ h1.2 ?_ h2 (by rw[e4,h3])
 .simp only[A9,hg,BR,and_true,true_and];exact h1.1
 rw[e1];intro d Nt;have:=hd d Nt;simp only[lk,iN this]
end
inductive BW (hp hp':Hp):List AV->List AV->Prop
 |nil:BW hp hp' [] []|same {c:AV} {cs AO:List AV}:BW hp hp' cs AO->BW hp hp' (c::cs) (c::AO)|frz {c c':AV} {cs AO:List AV}:fzP 4 hp c->c'=fz 4 hp c->(∀i∈fzR 4 hp c,hp'.get i=none)->BW hp hp' cs AO->BW hp hp' (c::cs) (c'::AO)
theorem BW.ok {hp hp':Hp} {cs AO:List AV} (h:BW hp hp' cs AO):AO.length=cs.length/\∀j (h:j<cs.length) (h':j<AO.length),AO[j]=cs[j]\/(fzP 4 hp cs[j]/\AO[j]=fz 4 hp cs[j]/\∀i∈fzR 4 hp cs[j],hp'.get i=none):=by
 induction h with
 |nil=>exact⟨rfl,fun j h=>vz3⟩|same _ ih=>
  refine⟨by simp[ih.1],fun j h h'=>?_⟩;cases j with
  |zero=>exact .inl rfl|succ j=>exact ih.2 j vy0 (by simpa using h')
 |frz h1 h2 h3 _ ih=>
  refine⟨by simp[ih.1],fun j h h'=>?_⟩;cases j with
  |zero=>exact .inr ⟨h1,h2,h3⟩|succ j=>exact ih.2 j vy0 (by simpa using h')
theorem FV.ofBW {hp hp':Hp} {cs AO:List AV} (h:BW hp hp' cs AO):FV hp hp' (.box cs) (.box AO):= .box _ _ h.ok.1 h.ok.2
def F8 (i:Nat) (c:AV):AV:=if i=0 then .sl [] true else c
def F9 (i:Nat) (o:Nat×Ob):Option (Nat×Ob):=if i=0 then none else some o
theorem Ji {c:AV}:F8 0 c= .sl [] true:=rfl
theorem Jj {o:Nat×Ob}:F9 0 o=none:=rfl
theorem Hd {i:Nat} {c:AV} (h:i≠0):F8 i c=c:=iN h
theorem He {i:Nat} {o:Nat×Ob} (h:i≠0):F9 i o=some o:=iN h
theorem FQ {i:Nat} {c:AV}:F8 (i+1) c=c:=rfl
theorem FR {i:Nat} {o:Nat×Ob}:F9 (i+1) o=some o:=rfl
open Go
section
variable {t:Nat} {l:List (List Int)}
theorem O8:(BI t l).length=l.length:=by simp[BI]
theorem O7 {i:Nat} (h:i<l.length):(BI t l).getD i .bad= .kid t 1 (As (l.getD i [])):=by simp[BI,h]
theorem yE {r:List Int}:BI t l++[.kid t 1 (As r)]=BI t (l++[r]):=by simp[BI]
theorem yD {i:Nat} {r:List Int}:(BI t l).set i (.kid t 1 (As r))=BI t (l.set i r):=by simp[BI,List.map_set]
theorem UT {r:List Int}:[AV.kid t 1 (As r)]=BI t [r]:=rfl
theorem YR {f:AV->AV} {g:List Int->AV} (h:∀r,f (.kid t 1 (As r))=g r):(BI t l).map (AH f)=l.map g:=by simp only[BI,List.map_map];exact List.map_congr_left fun x _=>h x
theorem US {f:AV->Prop} (h:∀r,f (.kid t 1 (As r))):(∀e∈BI t l,∀c∈e.cells,f c)=True:=by refine eq_true fun e he c hc=>?_;obtain⟨x,_,rfl⟩:=List.mem_map.1 he;simp only[AV.cells,List.mem_singleton] at hc;subst hc;exact h x
theorem ij {f:AV->List Nat} (h:∀r,f (.kid t 1 (As r))=[]):((BI t l).flatMap fun e=>e.cells.flatMap f)=[]:=by rw[List.flatMap_eq_nil_iff];intro e he;obtain⟨x,_,rfl⟩:=List.mem_map.1 he;simp[AV.cells,h x]
theorem yv (n:Nat) (hp:Hp):(BI t l).map (AH (fz n hp))=Ij l:=YR fun r=>vk3
theorem yw (n:Nat) (hp:Hp):(∀e∈BI t l,∀c∈e.cells,fzP n hp c)=True:=US fun r=>by cases n<;>trivial
theorem yC (τ:Nm) (hp:Hp):(BI t l).map (AH (rnK true τ hp))=BI t l:=YR fun r=>rfl
theorem yx (τ:Nm) (hp:Hp):(BI t l).map (AH (rnK false τ hp))=BI t l:=YR fun r=>rfl
theorem yz (τ:Nm) (hp:Hp):(∀e∈BI t l,∀c∈e.cells,rnKP true τ hp c)=True:=US fun r=>trivial
theorem yy (τ:Nm) (hp:Hp):(∀e∈BI t l,∀c∈e.cells,rnKP false τ hp c)=True:=US fun r=>trivial
theorem yB (τ:Nm) (hp:Hp):((BI t l).flatMap fun e=>e.cells.flatMap (rnKR true τ hp))=[]:=ij fun r=>rfl
theorem yA (τ:Nm) (hp:Hp):((BI t l).flatMap fun e=>e.cells.flatMap (rnKR false τ hp))=[]:=ij fun r=>rfl
theorem Qcb {n:Nat}:List.replicate n (AV.lit (.int .i64 0))=As (List.replicate n 0):=xv6
end
attribute [go_sem] O8 yE yD yv yw yC yx yz yy yB yA Qcb
open Go
theorem V4 {C:Cx} {c:Code} {Q:Exit->St->Prop} {s:St} {id gi t k i rid rg n:Nat} {es:List AV} (hg:s.hp.get id=some (gi, .own t k es)) (hi:i<es.length)
  (he:es.getD i .bad= .l rid rg 0 n) (hid:id≠rid) (hP:attP s.hp (.l rid rg 0 n))
  (h:BD C c Q ⟨s.tm,(id,some (gi, .own t k (es.set i (att s.hp (.l rid rg 0 n)))))::(rid,none)::s.hp,s.ck⟩):BD C c Q s:=by
 refine fun a w hr=>h a w ?_;obtain⟨r1,r2,r3,e,r4,r5,r6⟩:=hr;have HA:es[i]= .l rid rg 0 n:=by rw[<-he,gE,gG hi];rfl
 obtain⟨ee,_,_,_,A8⟩:=r4.live id _ _ hg;have A3:=A8.2.2.2.1;have Bi:k=1:=by have:=A3 i hi;rw[HA] at this;exact this.symm
 subst Bi;obtain⟨t',k',xs,hv⟩:∃t' k' xs,att s.hp (.l rid rg 0 n)= .kid t' k' xs:=by
  have Nq:fzP 1 s.hp (.l rid rg 0 n):=hP;show ∃t' k' xs,(match s.hp.get rid with|some (_, .own t k es)=>if(0:Nat)=0 then AV.kid t k (es.map (AH (fz 0 s.hp))) else fz 1 s.hp (.l rid rg 0 n)|_=> .bad)= .kid t' k' xs;simp only[fzP] at Nq;cases R5:s.hp.get rid with
  |none=>rw[R5] at Nq;exact Nq.elim|some q=>
   obtain⟨g',ob⟩:=q;rw[R5] at Nq;cases ob with
   |own t k es=>exact⟨t,k,_,rfl⟩|box cs=>exact Nq.elim|mp _=>exact Nq.elim|ms _=>exact Nq.elim|bd _ _ _=>exact Nq.elim
 have Cq:(att s.hp (.l rid rg 0 n)).cells=[att s.hp (.l rid rg 0 n)]:=by rw[hv];rfl
 have elem:∀j (hj:j<(es.set i (att s.hp (.l rid rg 0 n))).length),(es.set i (att s.hp (.l rid rg 0 n)))[j]=if i=j then att s.hp (.l rid rg 0 n) else es[j]' vx2:=fun j hj=>by rw[List.getElem_set]
 have hA:Dj (.l rid rg 0 n)=[rid]:=rfl;have:=V3 r4 (fun a b=>a=i/\b=0) (es':=es.set i (att s.hp (.l rid rg 0 n))) (D:=[rid]) hg (by simpa using hid) sM ?_ ?_ ?_ ?_
 ·obtain⟨e',a1,a2,a3,a4,_,_⟩:=this;exact⟨r1,r2,r3,e',a1,⟨a3.trans r5.zeq,r5.zlt,r5.ext.trans a2,fun b hb=>r5.mine b (a4 b hb)⟩,fun t=>(r6 t).ext a2⟩
 ·intro j hj;rw[elem j hj];split
  ·rw[Cq];rfl
  exact A3 _ _
 ·intro a ha BV j hj Ah;simp only[elem a BV] at Ah ⊢;by_cases fx:i=a
  ·subst fx;simp only[if_true,HA] at hj Ah ⊢;have JN:j=0:=by simp[AV.cells] at hj;exact hj
   subst JN;refine .inr ⟨⟨trivial,rfl⟩,rid,sM,rfl,hP,?_⟩;show(att s.hp (.l rid rg 0 n)).cells[0]=att s.hp (.l rid rg 0 n);simp only[Cq,List.getElem_cons_zero]
  simp only[iN fx];exact .inl trivial
 ·intro Br D1;simp only[List.mem_singleton] at D1;subst D1;refine⟨i,0,hi,vv5,by rw[HA];exact Nat.zero_lt_one,?_,?_⟩
  ·rw[elem i vv5,iP rfl,Cq];exact Nat.zero_lt_one
  simp only[HA];rfl
 intro Br _ a j a' j' _ _ _ _ hA Np _ _;exact⟨hA.1.trans Np.1.symm,hA.2.trans Np.2.symm⟩
open Go
def Er (l:List Bool):List AV:=l.map B
theorem oL (l:List Bool):(Er l).length=l.length:=by simp[Er]
theorem Q9 {l:List Bool} {i:Nat} (h:i<l.length):(Er l).getD i .bad=B (l.getD i false):=by simp[Er,h]
theorem mH (l:List Bool):PE (Er l)=True:=by refine eq_true fun e he c hc=>?_;simp only[Er,List.mem_map] at he;obtain⟨x,_,rfl⟩:=he;simp only[AV.cells,List.mem_singleton] at hc;subst hc;trivial
theorem oO {l:List Bool} {b:Bool}:Er l++[.lit (.bool b)]=Er (l++[b]):=by simp[Er]
theorem oN {l:List Bool} {i:Nat} {b:Bool}:(Er l).set i (.lit (.bool b))=Er (l.set i b):=by simp[Er,List.map_set]
theorem Qca {n:Nat}:List.replicate n (AV.lit (.bool false))=Er (List.replicate n false):=by simp[Er]
attribute [go_sem] oL mH oO oN Qca
open Go
attribute [go_sem] ne_eq or_false false_or false_imp_iff implies_true List.nodup_cons List.nodup_nil
theorem uI {a b:Prop} (h:a) (h2:b):a/\b:=⟨h,h2⟩
structure Dq (p:Prop):Prop where
 out:p
theorem Ak {p:Prop} (h:p:=by first|exact trivial|(simp only[go_sem,Nat.reduceAdd,Nat.reduceSub,Nat.reduceMul,Nat.reduceLT,Nat.reduceEqDiff,Nat.reduceBEq,Nat.reduceLeDiff,Int.reduceToNat,↓reduceIte,Int.reduceEq,Int.reduceLT,Int.reduceLE,Int.reduceAdd,Int.reduceSub,Int.reduceNeg,reduceCtorEq]<;>trivial)):p:=h
theorem kK {f p:Prop} (z:f) (h:f->p:=by intro z;first|exact trivial|(simp only[go_sem,Nat.reduceAdd,Nat.reduceSub,Nat.reduceMul,Nat.reduceLT,Nat.reduceEqDiff,Nat.reduceBEq,Nat.reduceLeDiff,Int.reduceToNat,↓reduceIte,Int.reduceEq,Int.reduceLT,Int.reduceLE,Int.reduceAdd,Int.reduceSub,Int.reduceNeg,reduceCtorEq,z]<;>trivial)):p:=h z
theorem uXd {p:Prop} (h:p:=by (simp only[go_sem,Nat.reduceAdd,Nat.reduceSub,Nat.reduceMul,Nat.reduceLT,Nat.reduceEqDiff,Nat.reduceBEq,Nat.reduceLeDiff,Int.reduceToNat,↓reduceIte,Int.reduceEq,Int.reduceLT,Int.reduceLE,Int.reduceAdd,Int.reduceSub,Int.reduceNeg,reduceCtorEq]<;>fail)):p:=h
theorem QiO {f p:Prop} (z:f) (h:f->p:=by intro z;(simp only[go_sem,Nat.reduceAdd,Nat.reduceSub,Nat.reduceMul,Nat.reduceLT,Nat.reduceEqDiff,Nat.reduceBEq,Nat.reduceLeDiff,Int.reduceToNat,↓reduceIte,Int.reduceEq,Int.reduceLT,Int.reduceLE,Int.reduceAdd,Int.reduceSub,Int.reduceNeg,reduceCtorEq,z]<;>fail)):p:=h z
theorem uBr {p:Prop} (h:p:=by first|rfl|(simp only[go_sem,Nat.reduceAdd,Nat.reduceSub,Nat.reduceMul,Nat.reduceLT,Nat.reduceEqDiff,Nat.reduceBEq,Nat.reduceLeDiff,Int.reduceToNat,↓reduceIte,Int.reduceEq,Int.reduceLT,Int.reduceLE,Int.reduceAdd,Int.reduceSub,Int.reduceNeg,reduceCtorEq]<;>rfl)):p:=h
theorem uBs {p:Prop} (h:p:=by first|(simp only[go_sem,Nat.reduceAdd,Nat.reduceSub,Nat.reduceMul,Nat.reduceLT,Nat.reduceEqDiff,Nat.reduceBEq,Nat.reduceLeDiff,Int.reduceToNat,↓reduceIte,Int.reduceEq,Int.reduceLT,Int.reduceLE,Int.reduceAdd,Int.reduceSub,Int.reduceNeg,reduceCtorEq]<;>fail)|(simp only[go_sem,Nat.reduceAdd,Nat.reduceSub,Nat.reduceMul,Nat.reduceLT,Nat.reduceEqDiff,Nat.reduceBEq,Nat.reduceLeDiff,Int.reduceToNat,↓reduceIte,Int.reduceEq,Int.reduceLT,Int.reduceLE,Int.reduceAdd,Int.reduceSub,Int.reduceNeg,reduceCtorEq]<;>simp<;>fail)|(simp<;>fail)):p:=h
theorem QiK {f p:Prop} (z:f) (h:f->p:=by intro z;first|rfl|(simp only[go_sem,Nat.reduceAdd,Nat.reduceSub,Nat.reduceMul,Nat.reduceLT,Nat.reduceEqDiff,Nat.reduceBEq,Nat.reduceLeDiff,Int.reduceToNat,↓reduceIte,Int.reduceEq,Int.reduceLT,Int.reduceLE,Int.reduceAdd,Int.reduceSub,Int.reduceNeg,reduceCtorEq,z]<;>rfl)):p:=h z
theorem QiM {f p:Prop} (z:f) (h:f->p:=by intro z;first|(simp only[go_sem,Nat.reduceAdd,Nat.reduceSub,Nat.reduceMul,Nat.reduceLT,Nat.reduceEqDiff,Nat.reduceBEq,Nat.reduceLeDiff,Int.reduceToNat,↓reduceIte,Int.reduceEq,Int.reduceLT,Int.reduceLE,Int.reduceAdd,Int.reduceSub,Int.reduceNeg,reduceCtorEq,z]<;>fail)|(simp only[go_sem,Nat.reduceAdd,Nat.reduceSub,Nat.reduceMul,Nat.reduceLT,Nat.reduceEqDiff,Nat.reduceBEq,Nat.reduceLeDiff,Int.reduceToNat,↓reduceIte,Int.reduceEq,Int.reduceLT,Int.reduceLE,Int.reduceAdd,Int.reduceSub,Int.reduceNeg,reduceCtorEq,z]<;>simp<;>fail)|(simp<;>fail)):p:=h z
theorem uW {p q:Prop} (k:p) (h:Dq p->q:=by intro k;(repeat first|refine A5 ?_|refine BQ ?_|refine B5 ?_);exact k.out):q:=h ⟨k⟩
theorem uS {p q:Prop} (k:p) (h:Dq p->q:=by intro k;simp only[go_sem,Nat.reduceAdd,Nat.reduceSub,Nat.reduceMul,Nat.reduceLT,Nat.reduceEqDiff,Nat.reduceBEq,Nat.reduceLeDiff,Int.reduceToNat,↓reduceIte,Int.reduceEq,Int.reduceLT,Int.reduceLE,Int.reduceAdd,Int.reduceSub,Int.reduceNeg,reduceCtorEq];exact k.out):q:=h ⟨k⟩
theorem Ap {f p q:Prop} (z:f) (k:p) (h:f->Dq p->q:=by intro z k;simp only[go_sem,Nat.reduceAdd,Nat.reduceSub,Nat.reduceMul,Nat.reduceLT,Nat.reduceEqDiff,Nat.reduceBEq,Nat.reduceLeDiff,Int.reduceToNat,↓reduceIte,Int.reduceEq,Int.reduceLT,Int.reduceLE,Int.reduceAdd,Int.reduceSub,Int.reduceNeg,reduceCtorEq,z];exact k.out):q:=h z ⟨k⟩
theorem uRT {p:Prop} (h:p:=by simp only[go_sem,Nat.reduceAdd,Nat.reduceSub,Nat.reduceMul,Nat.reduceLT,Nat.reduceEqDiff,Nat.reduceBEq,Nat.reduceLeDiff,Int.reduceToNat,↓reduceIte,Int.reduceEq,Int.reduceLT,Int.reduceLE,Int.reduceAdd,Int.reduceSub,Int.reduceNeg,reduceCtorEq]<;>trivial):p:=h
theorem Vv {f p:Prop} (z:f) (h:f->p:=by intro z;simp only[go_sem,Nat.reduceAdd,Nat.reduceSub,Nat.reduceMul,Nat.reduceLT,Nat.reduceEqDiff,Nat.reduceBEq,Nat.reduceLeDiff,Int.reduceToNat,↓reduceIte,Int.reduceEq,Int.reduceLT,Int.reduceLE,Int.reduceAdd,Int.reduceSub,Int.reduceNeg,reduceCtorEq,z]<;>trivial):p:=h z
theorem uX {p:Prop} (h:p:=by simp only[go_sem,Nat.reduceAdd,Nat.reduceSub,Nat.reduceMul,Nat.reduceLT,Nat.reduceEqDiff,Nat.reduceBEq,Nat.reduceLeDiff,Int.reduceToNat,↓reduceIte,Int.reduceEq,Int.reduceLT,Int.reduceLE,Int.reduceAdd,Int.reduceSub,Int.reduceNeg,reduceCtorEq]):p:=h
theorem Aq {f p:Prop} (z:f) (h:f->p:=by intro z;simp only[go_sem,Nat.reduceAdd,Nat.reduceSub,Nat.reduceMul,Nat.reduceLT,Nat.reduceEqDiff,Nat.reduceBEq,Nat.reduceLeDiff,Int.reduceToNat,↓reduceIte,Int.reduceEq,Int.reduceLT,Int.reduceLE,Int.reduceAdd,Int.reduceSub,Int.reduceNeg,reduceCtorEq,z]):p:=h z
theorem uR {p q:Prop} (k:p) (h:Dq p->q:=by intro k;(repeat first|refine A5 ?_|refine BQ ?_|refine B5 ?_);refine Ep hC rfl fun K hK=>?_;simp only[go_sem,Nat.reduceAdd,Nat.reduceSub,Nat.reduceMul,Nat.reduceLT,Nat.reduceEqDiff,Nat.reduceBEq,Nat.reduceLeDiff,Int.reduceToNat,↓reduceIte,Int.reduceEq,Int.reduceLT,Int.reduceLE,Int.reduceAdd,Int.reduceSub,Int.reduceNeg,reduceCtorEq];revert hK;revert K;exact k.out):q:=h ⟨k⟩
theorem uD {p q:Prop} (k:p) (h:Dq p->q:=by intro k;(repeat first|refine A5 ?_|refine BQ ?_|refine B5 ?_);refine M4 hC (by kernel_rfl) (by kernel_rfl) rfl fun K hK=>?_;simp only[go_sem,Nat.reduceAdd,Nat.reduceSub,Nat.reduceMul,Nat.reduceLT,Nat.reduceEqDiff,Nat.reduceBEq,Nat.reduceLeDiff,Int.reduceToNat,↓reduceIte,Int.reduceEq,Int.reduceLT,Int.reduceLE,Int.reduceAdd,Int.reduceSub,Int.reduceNeg,reduceCtorEq];revert hK;revert K;exact k.out):q:=h ⟨k⟩
theorem uE {p q:Prop} (k:p) (h:Dq p->q:=by intro k;(repeat first|refine A5 ?_|refine BQ ?_|refine B5 ?_);refine Tx hC (by kernel_rfl) (by kernel_rfl) rfl fun K hK=>?_;simp only[go_sem,Nat.reduceAdd,Nat.reduceSub,Nat.reduceMul,Nat.reduceLT,Nat.reduceEqDiff,Nat.reduceBEq,Nat.reduceLeDiff,Int.reduceToNat,↓reduceIte,Int.reduceEq,Int.reduceLT,Int.reduceLE,Int.reduceAdd,Int.reduceSub,Int.reduceNeg,reduceCtorEq];revert hK;revert K;exact k.out):q:=h ⟨k⟩
theorem uA {p q:Prop} (k:p) (h:Dq p->q:=by intro k;(repeat first|refine A5 ?_|refine BQ ?_|refine B5 ?_);refine Ep hC rfl fun K hK=>?_;simp only[go_sem,Nat.reduceAdd,Nat.reduceSub,Nat.reduceMul,Nat.reduceLT,Nat.reduceEqDiff,Nat.reduceBEq,Nat.reduceLeDiff,Int.reduceToNat,↓reduceIte,Int.reduceEq,Int.reduceLT,Int.reduceLE,Int.reduceAdd,Int.reduceSub,Int.reduceNeg,reduceCtorEq];(repeat ((with_reducible refine And.intro ?_ ?_);focus (((repeat' apply And.intro)<;>first|omega|(simp;done)|kernel_rfl))));refine hK _ ?_;clear hK K;exact k.out):q:=h ⟨k⟩
theorem uK {p q:Prop} (k:p) (h:Dq p->q:=by intro k;(repeat first|refine A5 ?_|refine BQ ?_|refine B5 ?_);refine Tx hC (by kernel_rfl) (by kernel_rfl) rfl fun K hK=>?_;simp only[go_sem,Nat.reduceAdd,Nat.reduceSub,Nat.reduceMul,Nat.reduceLT,Nat.reduceEqDiff,Nat.reduceBEq,Nat.reduceLeDiff,Int.reduceToNat,↓reduceIte,Int.reduceEq,Int.reduceLT,Int.reduceLE,Int.reduceAdd,Int.reduceSub,Int.reduceNeg,reduceCtorEq];(repeat ((with_reducible refine And.intro ?_ ?_);focus (((repeat' apply And.intro)<;>first|omega|(simp;done)|kernel_rfl))));refine hK _ ?_;clear hK K;exact k.out):q:=h ⟨k⟩
theorem uT {p q:Prop} (k:p) (h:Dq p->q:=by intro k;(repeat first|refine A5 ?_|refine BQ ?_|refine B5 ?_);refine bV rfl ?_;exact k.out):q:=h ⟨k⟩
theorem uF {p q:Prop} (k:p) (h:Dq p->q:=by intro k;(repeat first|refine A5 ?_|refine BQ ?_|refine B5 ?_);refine bU rfl ?_;exact k.out):q:=h ⟨k⟩
theorem uC {p q:Prop} (k:p) (h:Dq p->q:=by intro k;(repeat first|refine A5 ?_|refine BQ ?_|refine B5 ?_);(first|refine bV rfl ?_|refine bU rfl ?_);exact k.out):q:=h ⟨k⟩
theorem Av {f p q:Prop} (z:f) (k:p) (h:f->Dq p->q:=by intro z k;(repeat first|refine A5 ?_|refine BQ ?_|refine B5 ?_);refine Ep hC rfl fun K hK=>?_;simp only[go_sem,Nat.reduceAdd,Nat.reduceSub,Nat.reduceMul,Nat.reduceLT,Nat.reduceEqDiff,Nat.reduceBEq,Nat.reduceLeDiff,Int.reduceToNat,↓reduceIte,Int.reduceEq,Int.reduceLT,Int.reduceLE,Int.reduceAdd,Int.reduceSub,Int.reduceNeg,reduceCtorEq,z];revert hK;revert K;exact k.out):q:=h z ⟨k⟩
theorem CK {f p q:Prop} (z:f) (k:p) (h:f->Dq p->q:=by intro z k;(repeat first|refine A5 ?_|refine BQ ?_|refine B5 ?_);refine M4 hC (by kernel_rfl) (by kernel_rfl) rfl fun K hK=>?_;simp only[go_sem,Nat.reduceAdd,Nat.reduceSub,Nat.reduceMul,Nat.reduceLT,Nat.reduceEqDiff,Nat.reduceBEq,Nat.reduceLeDiff,Int.reduceToNat,↓reduceIte,Int.reduceEq,Int.reduceLT,Int.reduceLE,Int.reduceAdd,Int.reduceSub,Int.reduceNeg,reduceCtorEq,z];revert hK;revert K;exact k.out):q:=h z ⟨k⟩
theorem Cv {f p q:Prop} (z:f) (k:p) (h:f->Dq p->q:=by intro z k;(repeat first|refine A5 ?_|refine BQ ?_|refine B5 ?_);refine Tx hC (by kernel_rfl) (by kernel_rfl) rfl fun K hK=>?_;simp only[go_sem,Nat.reduceAdd,Nat.reduceSub,Nat.reduceMul,Nat.reduceLT,Nat.reduceEqDiff,Nat.reduceBEq,Nat.reduceLeDiff,Int.reduceToNat,↓reduceIte,Int.reduceEq,Int.reduceLT,Int.reduceLE,Int.reduceAdd,Int.reduceSub,Int.reduceNeg,reduceCtorEq,z];revert hK;revert K;exact k.out):q:=h z ⟨k⟩
theorem Ac {f p q:Prop} (z:f) (k:p) (h:f->Dq p->q:=by intro z k;(repeat first|refine A5 ?_|refine BQ ?_|refine B5 ?_);refine Ep hC rfl fun K hK=>?_;simp only[go_sem,Nat.reduceAdd,Nat.reduceSub,Nat.reduceMul,Nat.reduceLT,Nat.reduceEqDiff,Nat.reduceBEq,Nat.reduceLeDiff,Int.reduceToNat,↓reduceIte,Int.reduceEq,Int.reduceLT,Int.reduceLE,Int.reduceAdd,Int.reduceSub,Int.reduceNeg,reduceCtorEq,z];(repeat ((with_reducible refine And.intro ?_ ?_);focus (((repeat' apply And.intro)<;>first|omega|(simp;done)|kernel_rfl))));refine hK _ ?_;clear hK K;exact k.out):q:=h z ⟨k⟩
theorem DD {f p q:Prop} (z:f) (k:p) (h:f->Dq p->q:=by intro z k;(repeat first|refine A5 ?_|refine BQ ?_|refine B5 ?_);refine Tx hC (by kernel_rfl) (by kernel_rfl) rfl fun K hK=>?_;simp only[go_sem,Nat.reduceAdd,Nat.reduceSub,Nat.reduceMul,Nat.reduceLT,Nat.reduceEqDiff,Nat.reduceBEq,Nat.reduceLeDiff,Int.reduceToNat,↓reduceIte,Int.reduceEq,Int.reduceLT,Int.reduceLE,Int.reduceAdd,Int.reduceSub,Int.reduceNeg,reduceCtorEq,z];(repeat ((with_reducible refine And.intro ?_ ?_);focus (((repeat' apply And.intro)<;>first|omega|(simp;done)|kernel_rfl))));refine hK _ ?_;clear hK K;exact k.out):q:=h z ⟨k⟩
theorem Jq {p q:Prop} (k:p) (h:Dq p->q:=by intro k;(first|refine AX.cons rfl ?_|refine AX.gone ?_|refine AX.opt rfl ?_|(refine AX.cons ?_ ?_;(focus exact uXd))|(refine AX.less rfl (FV.ofBW ?_) ?_;(focus ((repeat (first|exact BW.nil|refine BW.same ?_|(refine BW.frz ?_ ?_ ?_ ?_;(focus exact Ak);(focus exact uBr);(focus exact uBs)))));done)));exact k.out):q:=h ⟨k⟩
theorem QgP {f p q:Prop} (z:f) (k:p) (h:f->Dq p->q:=by intro z k;(first|refine AX.cons rfl ?_|refine AX.gone ?_|refine AX.opt rfl ?_|(refine AX.cons ?_ ?_;(focus exact QiO z))|(refine AX.less rfl (FV.ofBW ?_) ?_;(focus ((repeat (first|exact BW.nil|refine BW.same ?_|(refine BW.frz ?_ ?_ ?_ ?_;(focus exact kK z);(focus exact QiK z);(focus exact QiM z)))));done)));exact k.out):q:=h z ⟨k⟩
theorem Jr {p q:Prop} (k:p) (h:Dq p->q:=by intro k;(first|refine BA.cons rfl ?_|(refine BA.cons ?_ ?_;(focus exact uXd))|(refine BA.snap ?_ ?_ ?_ ?_;(focus exact Ak);(focus exact uBr);(focus exact uBs)));exact k.out):q:=h ⟨k⟩
theorem QgR {f p q:Prop} (z:f) (k:p) (h:f->Dq p->q:=by intro z k;(first|refine BA.cons rfl ?_|(refine BA.cons ?_ ?_;(focus exact QiO z))|(refine BA.snap ?_ ?_ ?_ ?_;(focus exact kK z);(focus exact QiK z);(focus exact QiM z)));exact k.out):q:=h z ⟨k⟩
theorem Cb {s:St} {a b:Hp} (h:AX s a b:=by repeat (first|exact AX.nil|refine Jq ?_)):AX s a b:=h
theorem A4 {s:St} {a:Hp} {b:List (Nat×AV)} (h:BA s a b:=by repeat (first|exact BA.nil|refine Jr ?_)):BA s a b:=h
theorem Ax {s:St} {a b:Hp} {f:Prop} (z:f) (h:f->AX s a b:=by intro z;repeat (first|exact AX.nil|refine QgP z ?_)):AX s a b:=h z
theorem AS {s:St} {a:Hp} {b:List (Nat×AV)} {f:Prop} (z:f) (h:f->BA s a b:=by intro z;repeat (first|exact BA.nil|refine QgR z ?_)):BA s a b:=h z
theorem Af {s s':St} (hc:s.ck<=s'.ck:=by exact lR _) (hh:AX s s'.hp s'.hp:=by exact Cb) (ht:BA s s'.hp s'.tm:=by exact A4):Jy s s':= .of hc hh ht
theorem Ab {p:Prop} (h:p:=by first|exact trivial|exact fun _ _=>rfl|(simp only[go_sem,Nat.reduceAdd,Nat.reduceSub,Nat.reduceMul,Nat.reduceLT,Nat.reduceEqDiff,Nat.reduceBEq,Nat.reduceLeDiff,Int.reduceToNat,↓reduceIte,Int.reduceEq,Int.reduceLT,Int.reduceLE,Int.reduceAdd,Int.reduceSub,Int.reduceNeg,reduceCtorEq,A9,AT,BR,BM,A7,BZ,Em,drops,List.mem_cons,List.mem_append,List.not_mem_nil,List.mem_singleton,List.filter_cons,List.filter_nil,List.contains_cons,List.contains_nil,forall_eq_or_imp,forall_eq,and_true,Bool.or_false,beq_self_eq_true,List.append_assoc]<;>first|trivial|(simp;done)|omega)|(simp;done)):p:=h
theorem Bz {p:Prop} (h:p:=by first|rfl|(simp only[go_sem,Nat.reduceAdd,Nat.reduceSub,Nat.reduceMul,Nat.reduceLT,Nat.reduceEqDiff,Nat.reduceBEq,Nat.reduceLeDiff,Int.reduceToNat,↓reduceIte,Int.reduceEq,Int.reduceLT,Int.reduceLE,Int.reduceAdd,Int.reduceSub,Int.reduceNeg,reduceCtorEq,A9,AT,BR,BM,A7,BZ,Em,drops,List.mem_cons,List.mem_append,List.not_mem_nil,List.mem_singleton,List.filter_cons,List.filter_nil,List.contains_cons,List.contains_nil,forall_eq_or_imp,forall_eq,and_true,Bool.or_false,beq_self_eq_true,List.append_assoc]<;>rfl)):p:=h
theorem DM {p q:Prop} (k:p) (h:Dq p->q:=by intro k;simp only[go_sem,Nat.reduceAdd,Nat.reduceSub,Nat.reduceMul,Nat.reduceLT,Nat.reduceEqDiff,Nat.reduceBEq,Nat.reduceLeDiff,Int.reduceToNat,↓reduceIte,Int.reduceEq,Int.reduceLT,Int.reduceLE,Int.reduceAdd,Int.reduceSub,Int.reduceNeg,reduceCtorEq,A9,AT,BR,BM,A7,BZ,Em,drops,List.mem_cons,List.mem_append,List.not_mem_nil,List.mem_singleton,List.filter_cons,List.filter_nil,List.contains_cons,List.contains_nil,forall_eq_or_imp,forall_eq,and_true,Bool.or_false,beq_self_eq_true,List.append_assoc];exact k.out):q:=h ⟨k⟩
theorem uH {p q:Prop} (k:p) (h:Dq p->q:=by intro k;(repeat ((with_reducible refine And.intro ?_ ?_);focus (((repeat' apply And.intro)<;>first|omega|(simp;done)|kernel_rfl))));exact k.out):q:=h ⟨k⟩
theorem AW {f p:Prop} (z:f) (h:f->p:=by intro z;first|exact trivial|exact fun _ _=>rfl|(simp only[go_sem,Nat.reduceAdd,Nat.reduceSub,Nat.reduceMul,Nat.reduceLT,Nat.reduceEqDiff,Nat.reduceBEq,Nat.reduceLeDiff,Int.reduceToNat,↓reduceIte,Int.reduceEq,Int.reduceLT,Int.reduceLE,Int.reduceAdd,Int.reduceSub,Int.reduceNeg,reduceCtorEq,A9,AT,BR,BM,A7,BZ,Em,drops,List.mem_cons,List.mem_append,List.not_mem_nil,List.mem_singleton,List.filter_cons,List.filter_nil,List.contains_cons,List.contains_nil,forall_eq_or_imp,forall_eq,and_true,Bool.or_false,beq_self_eq_true,List.append_assoc,z]<;>first|trivial|(simp;done)|omega)|(simp;done)):p:=h z
theorem Ke {f p:Prop} (z:f) (h:f->p:=by intro z;first|rfl|(simp only[go_sem,Nat.reduceAdd,Nat.reduceSub,Nat.reduceMul,Nat.reduceLT,Nat.reduceEqDiff,Nat.reduceBEq,Nat.reduceLeDiff,Int.reduceToNat,↓reduceIte,Int.reduceEq,Int.reduceLT,Int.reduceLE,Int.reduceAdd,Int.reduceSub,Int.reduceNeg,reduceCtorEq,A9,AT,BR,BM,A7,BZ,Em,drops,List.mem_cons,List.mem_append,List.not_mem_nil,List.mem_singleton,List.filter_cons,List.filter_nil,List.contains_cons,List.contains_nil,forall_eq_or_imp,forall_eq,and_true,Bool.or_false,beq_self_eq_true,List.append_assoc,z]<;>rfl)):p:=h z
theorem QV {f p q:Prop} (z:f) (k:p) (h:f->Dq p->q:=by intro z k;simp only[go_sem,Nat.reduceAdd,Nat.reduceSub,Nat.reduceMul,Nat.reduceLT,Nat.reduceEqDiff,Nat.reduceBEq,Nat.reduceLeDiff,Int.reduceToNat,↓reduceIte,Int.reduceEq,Int.reduceLT,Int.reduceLE,Int.reduceAdd,Int.reduceSub,Int.reduceNeg,reduceCtorEq,A9,AT,BR,BM,A7,BZ,Em,drops,List.mem_cons,List.mem_append,List.not_mem_nil,List.mem_singleton,List.filter_cons,List.filter_nil,List.contains_cons,List.contains_nil,forall_eq_or_imp,forall_eq,and_true,Bool.or_false,beq_self_eq_true,List.append_assoc,z];exact k.out):q:=h z ⟨k⟩
theorem Bn {p q:Prop} (k:p) (h:Dq p->q:=by intro k;refine(U9 (by simp only[go_sem,Nat.reduceAdd,Nat.reduceSub,Nat.reduceMul,Nat.reduceLT,Nat.reduceEqDiff,Nat.reduceBEq,Nat.reduceLeDiff,Int.reduceToNat,↓reduceIte,Int.reduceEq,Int.reduceLT,Int.reduceLE,Int.reduceAdd,Int.reduceSub,Int.reduceNeg,reduceCtorEq,Bv,BK]<;>simp) (by simp only[go_sem,Nat.reduceAdd,Nat.reduceSub,Nat.reduceMul,Nat.reduceLT,Nat.reduceEqDiff,Nat.reduceBEq,Nat.reduceLeDiff,Int.reduceToNat,↓reduceIte,Int.reduceEq,Int.reduceLT,Int.reduceLE,Int.reduceAdd,Int.reduceSub,Int.reduceNeg,reduceCtorEq,Bv,BK]<;>trivial) ?_);simp only[go_sem,Nat.reduceAdd,Nat.reduceSub,Nat.reduceMul,Nat.reduceLT,Nat.reduceEqDiff,Nat.reduceBEq,Nat.reduceLeDiff,Int.reduceToNat,↓reduceIte,Int.reduceEq,Int.reduceLT,Int.reduceLE,Int.reduceAdd,Int.reduceSub,Int.reduceNeg,reduceCtorEq,Bv,BK];exact k.out):q:=h ⟨k⟩
theorem MZ {f p q:Prop} (z:f) (k:p) (h:f->Dq p->q:=by intro z k;refine(U9 (by simp only[go_sem,Nat.reduceAdd,Nat.reduceSub,Nat.reduceMul,Nat.reduceLT,Nat.reduceEqDiff,Nat.reduceBEq,Nat.reduceLeDiff,Int.reduceToNat,↓reduceIte,Int.reduceEq,Int.reduceLT,Int.reduceLE,Int.reduceAdd,Int.reduceSub,Int.reduceNeg,reduceCtorEq,Bv,BK,z]<;>simp) (by simp only[go_sem,Nat.reduceAdd,Nat.reduceSub,Nat.reduceMul,Nat.reduceLT,Nat.reduceEqDiff,Nat.reduceBEq,Nat.reduceLeDiff,Int.reduceToNat,↓reduceIte,Int.reduceEq,Int.reduceLT,Int.reduceLE,Int.reduceAdd,Int.reduceSub,Int.reduceNeg,reduceCtorEq,Bv,BK,z]<;>trivial) ?_);simp only[go_sem,Nat.reduceAdd,Nat.reduceSub,Nat.reduceMul,Nat.reduceLT,Nat.reduceEqDiff,Nat.reduceBEq,Nat.reduceLeDiff,Int.reduceToNat,↓reduceIte,Int.reduceEq,Int.reduceLT,Int.reduceLE,Int.reduceAdd,Int.reduceSub,Int.reduceNeg,reduceCtorEq,Bv,BK,z];exact k.out):q:=h z ⟨k⟩
theorem Bp {p:Prop} (h:p:=by first|exact trivial|(simp only[go_sem,Nat.reduceAdd,Nat.reduceSub,Nat.reduceMul,Nat.reduceLT,Nat.reduceEqDiff,Nat.reduceBEq,Nat.reduceLeDiff,Int.reduceToNat,↓reduceIte,Int.reduceEq,Int.reduceLT,Int.reduceLE,Int.reduceAdd,Int.reduceSub,Int.reduceNeg,reduceCtorEq,Bv,BK,A9,AT,BR,BM]<;>first|trivial|(simp;done))):p:=h
theorem Bm {p:Prop} (h:p:=by refine(U9 (by simp only[go_sem,Nat.reduceAdd,Nat.reduceSub,Nat.reduceMul,Nat.reduceLT,Nat.reduceEqDiff,Nat.reduceBEq,Nat.reduceLeDiff,Int.reduceToNat,↓reduceIte,Int.reduceEq,Int.reduceLT,Int.reduceLE,Int.reduceAdd,Int.reduceSub,Int.reduceNeg,reduceCtorEq,Bv,BK]<;>simp) (by simp only[go_sem,Nat.reduceAdd,Nat.reduceSub,Nat.reduceMul,Nat.reduceLT,Nat.reduceEqDiff,Nat.reduceBEq,Nat.reduceLeDiff,Int.reduceToNat,↓reduceIte,Int.reduceEq,Int.reduceLT,Int.reduceLE,Int.reduceAdd,Int.reduceSub,Int.reduceNeg,reduceCtorEq,Bv,BK]<;>trivial) ?_);simp only[go_sem,Nat.reduceAdd,Nat.reduceSub,Nat.reduceMul,Nat.reduceLT,Nat.reduceEqDiff,Nat.reduceBEq,Nat.reduceLeDiff,Int.reduceToNat,↓reduceIte,Int.reduceEq,Int.reduceLT,Int.reduceLE,Int.reduceAdd,Int.reduceSub,Int.reduceNeg,reduceCtorEq,Bv,BK]):p:=h
theorem MY {f p:Prop} (z:f) (h:f->p:=by intro z;refine(U9 (by simp only[go_sem,Nat.reduceAdd,Nat.reduceSub,Nat.reduceMul,Nat.reduceLT,Nat.reduceEqDiff,Nat.reduceBEq,Nat.reduceLeDiff,Int.reduceToNat,↓reduceIte,Int.reduceEq,Int.reduceLT,Int.reduceLE,Int.reduceAdd,Int.reduceSub,Int.reduceNeg,reduceCtorEq,Bv,BK,z]<;>simp) (by simp only[go_sem,Nat.reduceAdd,Nat.reduceSub,Nat.reduceMul,Nat.reduceLT,Nat.reduceEqDiff,Nat.reduceBEq,Nat.reduceLeDiff,Int.reduceToNat,↓reduceIte,Int.reduceEq,Int.reduceLT,Int.reduceLE,Int.reduceAdd,Int.reduceSub,Int.reduceNeg,reduceCtorEq,Bv,BK,z]<;>trivial) ?_);simp only[go_sem,Nat.reduceAdd,Nat.reduceSub,Nat.reduceMul,Nat.reduceLT,Nat.reduceEqDiff,Nat.reduceBEq,Nat.reduceLeDiff,Int.reduceToNat,↓reduceIte,Int.reduceEq,Int.reduceLT,Int.reduceLE,Int.reduceAdd,Int.reduceSub,Int.reduceNeg,reduceCtorEq,Bv,BK,z]):p:=h z
theorem LS {p:Prop} (h:p:=by first|exact trivial|(simp only[go_sem,Nat.reduceAdd,Nat.reduceSub,Nat.reduceMul,Nat.reduceLT,Nat.reduceEqDiff,Nat.reduceBEq,Nat.reduceLeDiff,Int.reduceToNat,↓reduceIte,Int.reduceEq,Int.reduceLT,Int.reduceLE,Int.reduceAdd,Int.reduceSub,Int.reduceNeg,reduceCtorEq,Bv,BK]<;>trivial)):p:=h
theorem S9 {p q:Prop} (k:p) (h:Dq p->q:=by intro k;simp only[go_sem,Nat.reduceAdd,Nat.reduceSub,Nat.reduceMul,Nat.reduceLT,Nat.reduceEqDiff,Nat.reduceBEq,Nat.reduceLeDiff,Int.reduceToNat,↓reduceIte,Int.reduceEq,Int.reduceLT,Int.reduceLE,Int.reduceAdd,Int.reduceSub,Int.reduceNeg,reduceCtorEq,Bv,BK];exact k.out):q:=h ⟨k⟩
theorem Ta {p:Prop} (h:p:=by simp only[go_sem,Nat.reduceAdd,Nat.reduceSub,Nat.reduceMul,Nat.reduceLT,Nat.reduceEqDiff,Nat.reduceBEq,Nat.reduceLeDiff,Int.reduceToNat,↓reduceIte,Int.reduceEq,Int.reduceLT,Int.reduceLE,Int.reduceAdd,Int.reduceSub,Int.reduceNeg,reduceCtorEq,Bv,BK]):p:=h
theorem Fb {p q:Prop} (k:p) (h:Dq p->q:=by intro k;simp only[go_sem,Nat.reduceAdd,Nat.reduceSub,Nat.reduceMul,Nat.reduceLT,Nat.reduceEqDiff,Nat.reduceBEq,Nat.reduceLeDiff,Int.reduceToNat,↓reduceIte,Int.reduceEq,Int.reduceLT,Int.reduceLE,Int.reduceAdd,Int.reduceSub,Int.reduceNeg,reduceCtorEq,Bv,BK,A9,AT,BR,BM,A7,BZ];exact k.out):q:=h ⟨k⟩
theorem Fc {p:Prop} (h:p:=by simp only[go_sem,Nat.reduceAdd,Nat.reduceSub,Nat.reduceMul,Nat.reduceLT,Nat.reduceEqDiff,Nat.reduceBEq,Nat.reduceLeDiff,Int.reduceToNat,↓reduceIte,Int.reduceEq,Int.reduceLT,Int.reduceLE,Int.reduceAdd,Int.reduceSub,Int.reduceNeg,reduceCtorEq,Bv,BK,A9,AT,BR,BM,A7,BZ]):p:=h
theorem Am {a b p q:Prop} (hf:a) (hn:b) (k:p) (h:a->b->Dq p->q:=by intro hf hn k;refine VS (T:=Ad) HP hf rfl (by rfl) (by simp[hn]) ?_;intro w e X hX hC;clear hX;rw[hn];simp only[QU,List.zipIdx,List.map];clear hf hn;revert hC;revert X e w;exact k.out):q:=h hf hn ⟨k⟩
theorem D4 {p:Prop} (h:p:=by simp only[go_sem,Nat.reduceAdd,Nat.reduceSub,Nat.reduceMul,Nat.reduceLT,Nat.reduceEqDiff,Nat.reduceBEq,Nat.reduceLeDiff,Int.reduceToNat,↓reduceIte,Int.reduceEq,Int.reduceLT,Int.reduceLE,Int.reduceAdd,Int.reduceSub,Int.reduceNeg,reduceCtorEq,Bv,BK]<;>trivial):p:=h
theorem uZ {p q : Prop} (k:p) (h:Dq p->q:=by intro k;(repeat refine uA ?_);exact k.out):q:=h ⟨k⟩
theorem uJ {p q : Prop} (k:p) (h:Dq p->q:=by intro k;refine Ay (QO uRT ?_);exact k.out):q:=h ⟨k⟩
theorem Bg {f p q : Prop} (z:f) (k:p) (h:f->Dq p->q:=by intro z k;(repeat refine Ac @z ?_);exact k.out):q:=h z ⟨k⟩
theorem J8 {p q : Prop} (k:p) (h:Dq p->q:=by intro k;(repeat first|refine uC ?_|refine uA ?_);exact k.out):q:=h ⟨k⟩
theorem IB {f p q : Prop} (z:f) (k:p) (h:f->Dq p->q:=by intro z k;(repeat first|refine uC ?_|refine Ac @z ?_);exact k.out):q:=h z ⟨k⟩
theorem GF {a b p:Prop} (c:a) (d:b) (h:Dq a->Dq b->p:=by intro c d;refine uW ?_;exact Aj _ rfl c.out d.out):p:=h ⟨c⟩ ⟨d⟩
theorem uP {q : Prop} (h:q:=by refine uJ ?_;rfl):q:=h
theorem cF {T:AE} {P:Program} {f:FuncId} {g:Nat} {hp:Hp} {vs:List AV} {rc:AV} {K:AV->List Up->List Nat->Prop} (h:Ag P T f [] (vs.map (Bw true [] hp)) [] rc) (hK:K (Bw false [] [] rc) [] (vs.flatMap (Bl true [] hp))) (a:Jx [] hp vs:=by exact Ak) (b:B7 false [] [] rc:=by exact Ak) (c:Bl false [] [] rc=[]:=by exact Ak) (d:FA true [] (Bw false [] [] rc):=by exact Ak):IR P T f g hp vs K:=JA a h b c d hK
theorem cP {T:AE} {P:Program} {f:FuncId} {g:Nat} {hp:Hp} {vs:List AV} {rc:AV} {K:AV->List Up->List Nat->Prop} (h:Ag P T f [] (vs.map (Bw true [] hp)) [] rc) (hK:K (Bw false [] [] rc) (drops (vs.flatMap (Bl true [] hp))) (vs.flatMap (Bl true [] hp))) (a:Jx [] hp vs:=by exact Ak) (b:B7 false [] [] rc:=by exact Ak) (c:Bl false [] [] rc=[]:=by exact Ak) (d:FA false (vs.flatMap (Bl true [] hp)) (Bw false [] [] rc):=by exact Ak):IR P T f g hp vs K:=bz a h b c d hK
theorem xx8 {p q:Prop} (k:p) (h:Dq p->q:=by intro kQ;intro K hK;refine uH ?_;refine hK _ ?_;clear hK K;exact kQ.out):q:=h ⟨k⟩
theorem xx9 {p q r0:Prop} (cQ0:r0) (k:p) (h:r0->Dq p->q:=by intro cQ0 kQ;refine uR ?_;intro K hK;refine cF @cQ0 ?_;refine uS ?_;refine hK _ ?_;clear hK K;exact kQ.out):q:=h cQ0 ⟨k⟩
theorem xy0 {p q r0:Prop} (cQ0:r0) (k:p) (h:r0->Dq p->q:=by intro cQ0 kQ;refine uH ?_;refine cF @cQ0 ?_;refine uS ?_;exact kQ.out):q:=h cQ0 ⟨k⟩
theorem xy1 {q r0 r1:Prop} (cQ0:r0) (cQ1:r1) (h:Dq r0->Dq r1->q:=by intro cQ0 cQ1;refine uZ ?_;exact GF cQ0.out cQ1.out):q:=h ⟨cQ0⟩ ⟨cQ1⟩
theorem xy2 {p q r0:Prop} (cQ0:r0) (k:p) (h:r0->Dq p->q:=by intro cQ0 kQ;intro K hK;refine xy0 @cQ0 ?_;refine uH ?_;refine hK _ ?_;clear hK K;exact kQ.out):q:=h cQ0 ⟨k⟩
theorem xy3 {p q:Prop} (k:p) (h:Dq p->q:=by intro kQ;refine uT ?_;refine uZ ?_;exact kQ.out):q:=h ⟨k⟩
theorem xy4 {p q:Prop} (k:p) (h:Dq p->q:=by intro kQ;refine uZ ?_;refine uW ?_;exact kQ.out):q:=h ⟨k⟩
theorem xy5 {p q r0:Prop} (cQ0:r0) (k:p) (h:r0->Dq p->q:=by intro cQ0 kQ;intro K hK;refine cP @cQ0 ?_;refine uS ?_;refine uH ?_;refine hK _ ?_;clear hK K;exact kQ.out):q:=h cQ0 ⟨k⟩
theorem xy6 {p q r0:Prop} (cQ0:r0) (k:p) (h:r0->Dq p->q:=by intro cQ0 kQ;intro K hK;refine uH ?_;refine cP @cQ0 ?_;refine uS ?_;refine uH ?_;refine hK _ ?_;clear hK K;exact kQ.out):q:=h cQ0 ⟨k⟩
theorem xy7 {p q r0:Prop} (cQ0:r0) (k:p) (h:r0->Dq p->q:=by intro cQ0 kQ;intro K hK;refine xy0 @cQ0 ?_;refine hK _ ?_;clear hK K;exact kQ.out):q:=h cQ0 ⟨k⟩
theorem xy8 {p q r0:Prop} (cQ0:r0) (k:p) (h:r0->Dq p->q:=by intro cQ0 kQ;refine Av @cQ0 ?_;intro K hK;refine hK _ ?_;clear hK K;exact kQ.out):q:=h cQ0 ⟨k⟩
theorem xy9 {p q:Prop} (k:p) (h:Dq p->q:=by intro kQ;refine uF ?_;refine uZ ?_;exact kQ.out):q:=h ⟨k⟩
theorem xz0 {p q r0:Prop} (cQ0:r0) (k:p) (h:r0->Dq p->q:=by intro cQ0 kQ;refine cF @cQ0 ?_;refine uS ?_;exact kQ.out):q:=h cQ0 ⟨k⟩
theorem xz1 {p q r0:Prop} (cQ0:r0) (k:p) (h:r0->Dq p->q:=by intro cQ0 kQ;refine uR ?_;intro K hK;refine cP @cQ0 ?_;refine uS ?_;refine hK _ ?_;clear hK K;exact kQ.out):q:=h cQ0 ⟨k⟩
theorem xz2 {p q r0:Prop} (cQ0:r0) (k:p) (h:r0->Dq p->q:=by intro cQ0 kQ;refine Av @cQ0 ?_;refine xx8 ?_;exact kQ.out):q:=h cQ0 ⟨k⟩
theorem xz3 {p q:Prop} (k:p) (h:Dq p->q:=by intro kQ;refine uZ ?_;refine uJ ?_;exact kQ.out):q:=h ⟨k⟩
theorem xz4 {p q:Prop} (k:p) (h:Dq p->q:=by intro kQ;refine uZ ?_;refine Ay ?_;exact kQ.out):q:=h ⟨k⟩
theorem xz5 {q:Prop} (h:q:=by refine uZ ?_;exact uP):q:=h
theorem xz6 {q r0:Prop} (cQ0:r0) (h:r0->q:=by intro cQ0;refine xz2 @cQ0 ?_;refine xy3 ?_;rw[Bc BC];exact uP):q:=h cQ0
theorem xz7 {q:Prop} (h:q:=by refine xy3 ?_;exact uP):q:=h
theorem xz8 {p q:Prop} (k:p) (h:Dq p->q:=by intro kQ;refine uZ ?_;refine uR ?_;exact kQ.out):q:=h ⟨k⟩
theorem xz9 {p q r0:Prop} (cQ0:r0) (k:p) (h:r0->Dq p->q:=by intro cQ0 kQ;refine Bg @cQ0 ?_;refine uJ ?_;exact kQ.out):q:=h cQ0 ⟨k⟩
theorem xq0 {p q:Prop} (k:p) (h:Dq p->q:=by intro kQ;refine xy3 ?_;refine Ay ?_;exact kQ.out):q:=h ⟨k⟩
theorem xq1 {p q r0:Prop} (cQ0:r0) (k:p) (h:r0->Dq p->q:=by intro cQ0 kQ;refine Cv @cQ0 ?_;refine xx8 ?_;exact kQ.out):q:=h cQ0 ⟨k⟩
theorem xq2 {p q r0:Prop} (cQ0:r0) (k:p) (h:r0->Dq p->q:=by intro cQ0 kQ;refine CK @cQ0 ?_;refine xx8 ?_;exact kQ.out):q:=h cQ0 ⟨k⟩
theorem xq3 {p q r0:Prop} (cQ0:r0) (k:p) (h:r0->Dq p->q:=by intro cQ0 kQ;refine IB @cQ0 ?_;refine uJ ?_;exact kQ.out):q:=h cQ0 ⟨k⟩
theorem xq4 {p q:Prop} (k:p) (h:Dq p->q:=by intro kQ;refine xy3 ?_;refine uJ ?_;exact kQ.out):q:=h ⟨k⟩
theorem xq5 {p q r0:Prop} (cQ0:r0) (k:p) (h:r0->Dq p->q:=by intro cQ0 kQ;refine IB @cQ0 ?_;refine uW ?_;exact kQ.out):q:=h cQ0 ⟨k⟩
theorem xq6 {p q:Prop} (k:p) (h:Dq p->q:=by intro kQ;refine At ?_;refine uZ ?_;exact kQ.out):q:=h ⟨k⟩
theorem xq7 {p q:Prop} (k:p) (h:Dq p->q:=by intro kQ;refine DM ?_;refine uH ?_;exact kQ.out):q:=h ⟨k⟩
theorem xq8 {p q r0:Prop} (cQ0:r0) (k:p) (h:r0->Dq p->q:=by intro cQ0 kQ;refine uF ?_;refine Bg @cQ0 ?_;exact kQ.out):q:=h cQ0 ⟨k⟩
theorem xq9 {p q:Prop} (k:p) (h:Dq p->q:=by intro kQ;refine uF ?_;refine uW ?_;exact kQ.out):q:=h ⟨k⟩
theorem xw0 {p q r0 r1:Prop} (cQ0:r0) (cQ1:r1) (k:p) (h:r0->r1->Dq p->q:=by intro cQ0 cQ1 kQ;refine uA ?_;refine Av @cQ0 ?_;refine xy7 @cQ1 ?_;exact kQ.out):q:=h cQ0 cQ1 ⟨k⟩
theorem xw1 {p q r0:Prop} (cQ0:r0) (k:p) (h:r0->Dq p->q:=by intro cQ0 kQ;refine uH ?_;refine cP @cQ0 ?_;refine uS ?_;exact kQ.out):q:=h cQ0 ⟨k⟩
theorem xw2 {q:Prop} (h:q:=by refine xz4 ?_;rw[show f90.results.toList=[.cell 4 77, .tmp 5] from rfl];exact Bm):q:=h
theorem xw3 {p q r0 r1:Prop} (cQ0:r0) (cQ1:r1) (k:p) (h:r0->r1->Dq p->q:=by intro cQ0 cQ1 kQ;refine IB @cQ0 ?_;refine DD @cQ1 ?_;refine J8 ?_;refine uJ ?_;exact kQ.out):q:=h cQ0 cQ1 ⟨k⟩
theorem xw4 {p q r0:Prop} (cQ0:r0) (k:p) (h:r0->Dq p->q:=by intro cQ0 kQ;refine uA ?_;refine xx9 @cQ0 ?_;refine uW ?_;refine uJ ?_;exact kQ.out):q:=h cQ0 ⟨k⟩
theorem xw5 {q:Prop} (h:q:=by rw[show Tryz.f26.results.toList=[.tmp 4] from rfl];exact Bm):q:=h
theorem xw6 {p q r0:Prop} (cQ0:r0) (k:p) (h:r0->Dq p->q:=by intro cQ0 kQ;refine xz0 @cQ0 ?_;refine uH ?_;exact kQ.out):q:=h cQ0 ⟨k⟩
theorem xw7 {p q r0:Prop} (cQ0:r0) (k:p) (h:r0->Dq p->q:=by intro cQ0 kQ;refine uR ?_;refine xy5 @cQ0 ?_;exact kQ.out):q:=h cQ0 ⟨k⟩
theorem xw8 {p q:Prop} (k:p) (h:Dq p->q:=by intro kQ;simp only[go_sem,seval,A9,AT,BR,BM,A7,BZ,List.map_cons,List.map_nil,List.mem_cons,List.not_mem_nil,forall_eq_or_imp,forall_eq,and_true,List.append_nil,List.append_assoc];refine xz4 ?_;exact kQ.out):q:=h ⟨k⟩
theorem xw9 {q r0 r1:Prop} (cQ0:r0) (cQ1:r1) (h:Dq r0->Dq r1->q:=by intro cQ0 cQ1;refine uA ?_;exact GF cQ0.out cQ1.out):q:=h ⟨cQ0⟩ ⟨cQ1⟩
theorem xk0 {p q:Prop} (k:p) (h:Dq p->q:=by intro kQ;refine uF ?_;refine At ?_;exact kQ.out):q:=h ⟨k⟩
theorem xk1 {p q:Prop} (k:p) (h:Dq p->q:=by intro kQ;refine xy9 ?_;refine Ay ?_;exact kQ.out):q:=h ⟨k⟩
theorem xk2 {p q:Prop} (k:p) (h:Dq p->q:=by intro kQ;refine uT ?_;refine xq6 ?_;exact kQ.out):q:=h ⟨k⟩
theorem xk3 {p q r0:Prop} (cQ0:r0) (k:p) (h:r0->Dq p->q:=by intro cQ0 kQ;refine Bg @cQ0 ?_;refine uR ?_;exact kQ.out):q:=h cQ0 ⟨k⟩
end Go.Sym
namespace Go.Proofs.YtfcgkbinohibcaaGreatDoor
open Go Go.Sym Go.Proofs.Tryz
def Qfl:List (Nat×TI):=
[
 (2,⟨.int .i64,false,1,8,[.int .i64],false⟩),
 (3,⟨.int .i64,false,1,8,[.int .i64],false⟩),
 (4,⟨.bool,false,1,1,[.bool],false⟩),
 (5,⟨.int .u8,false,1,1,[.int .u8],false⟩),
 (7,⟨.struct [(0,2),(1,3),(2,4),(3,6)],true,4,24,[.int .i64, .int .i64, .bool, .int .u8],true⟩),
 (9,⟨.str,false,1,16,[.str],false⟩),
 (12,⟨.int .u64,false,1,8,[.int .u64],false⟩),
 (13,⟨.struct [(0,9),(1,12)],true,2,24,[.str, .int .u64],false⟩),
 (15,⟨.ptr 306,false,1,8,[.ptr],false⟩),
 (16,⟨.ptr 309,false,1,8,[.ptr],false⟩),
 (17,⟨.ptr 316,false,1,8,[.ptr],false⟩),
 (18,⟨.struct [(0,17)],true,1,8,[.ptr],false⟩),
 (20,⟨.iface,false,1,16,[.iface],false⟩),
 (21,⟨.int .i32,false,1,4,[.int .i32],false⟩),
 (22,⟨.slice 3,false,1,24,[.sl],false⟩),
 (23,⟨.ptr 60,false,1,8,[.ptr],false⟩),
 (25,⟨.slice 82,false,1,24,[.sl],false⟩),
 (26,⟨.slice 108,false,1,24,[.sl],false⟩),
 (27,⟨.struct [(0,25),(1,26)],true,2,48,[.sl, .sl],false⟩),
 (28,⟨.struct [(0,25),(1,26)],true,2,48,[.sl, .sl],false⟩),
 (31,⟨.slice 63,false,1,24,[.sl],false⟩),
 (32,⟨.struct [(0,3),(1,31)],true,2,32,[.int .i64, .sl],false⟩),
 (33,⟨.struct [(0,3),(1,31)],true,2,32,[.int .i64, .sl],false⟩),
 (34,⟨.slice 22,false,1,24,[.sl],false⟩),
 (35,⟨.struct [(0,34),(1,34)],true,2,48,[.sl, .sl],false⟩),
 (36,⟨.struct [(0,34),(1,34)],true,2,48,[.sl, .sl],false⟩),
 (40,⟨.slice 92,false,1,24,[.sl],false⟩),
 (46,⟨.slice 95,false,1,24,[.sl],false⟩),
 (48,⟨.slice 107,false,1,24,[.sl],false⟩),
 (49,⟨.int .i64,false,1,8,[.int .i64],false⟩),
 (53,⟨.slice 65,false,1,24,[.sl],false⟩),
 (59,⟨.struct [(0,22),(1,3)],true,2,32,[.sl, .int .i64],false⟩),
 (60,⟨.struct [(0,22),(1,3)],true,2,32,[.sl, .int .i64],false⟩),
 (62,⟨.struct [(0,3),(1,36)],true,3,56,[.int .i64, .sl, .sl],false⟩),
 (63,⟨.struct [(0,3),(1,36)],true,3,56,[.int .i64, .sl, .sl],false⟩),
 (64,⟨.struct [(0,3),(1,4),(2,9)],true,3,32,[.int .i64, .bool, .str],true⟩),
 (65,⟨.struct [(0,3),(1,4),(2,9)],true,3,32,[.int .i64, .bool, .str],true⟩),
 (74,⟨.slice 77,false,1,24,[.sl],false⟩),
 (76,⟨.struct [(0,3),(1,3)],true,2,16,[.int .i64, .int .i64],true⟩),
 (77,⟨.struct [(0,3),(1,3)],true,2,16,[.int .i64, .int .i64],true⟩),
 (81,⟨.struct [(0,9),(1,3),(2,3),(3,3),(4,22)],true,5,64,[.str, .int .i64, .int .i64, .int .i64, .sl],false⟩),
 (82,⟨.struct [(0,9),(1,3),(2,3),(3,3),(4,22)],true,5,64,[.str, .int .i64, .int .i64, .int .i64, .sl],false⟩),
 (84,⟨.slice 5,false,1,24,[.sl],false⟩),
 (91,⟨.struct [(0,3),(1,3),(2,3)],true,3,24,[.int .i64, .int .i64, .int .i64],true⟩),
 (92,⟨.struct [(0,3),(1,3),(2,3)],true,3,24,[.int .i64, .int .i64, .int .i64],true⟩),
 (94,⟨.struct [(0,3),(1,3),(2,3)],true,3,24,[.int .i64, .int .i64, .int .i64],true⟩),
 (95,⟨.struct [(0,3),(1,3),(2,3)],true,3,24,[.int .i64, .int .i64, .int .i64],true⟩),
 (96,⟨.struct [(0,22),(1,22)],true,2,48,[.sl, .sl],false⟩),
 (97,⟨.struct [(0,22),(1,22)],true,2,48,[.sl, .sl],false⟩),
 (106,⟨.struct [(0,3),(1,3),(2,3)],true,3,24,[.int .i64, .int .i64, .int .i64],true⟩),
 (107,⟨.struct [(0,3),(1,3),(2,3)],true,3,24,[.int .i64, .int .i64, .int .i64],true⟩),
 (108,⟨.struct [(0,3),(1,3),(2,3)],true,3,24,[.int .i64, .int .i64, .int .i64],true⟩),
 (113,⟨.ptr 157,false,1,8,[.ptr],false⟩),
 (119,⟨.other,false,1,8,[.fn],false⟩),
 (123,⟨.map 9 3,false,1,8,[.map],false⟩),
 (124,⟨.struct [(0,123),(1,31)],true,2,32,[.map, .sl],false⟩),
 (125,⟨.struct [(0,123),(1,31)],true,2,32,[.map, .sl],false⟩),
 (126,⟨.slice 31,false,1,24,[.sl],false⟩),
 (147,⟨.slice 4,false,1,24,[.sl],false⟩),
 (156,⟨.struct [(0,28),(2,22)],true,3,72,[.sl, .sl, .sl],false⟩),
 (157,⟨.struct [(0,28),(2,22)],true,3,72,[.sl, .sl, .sl],false⟩),
 (160,⟨.ptr 125,false,1,8,[.ptr],false⟩),
 (161,⟨.ptr 163,false,1,8,[.ptr],false⟩),
 (162,⟨.struct [(0,113),(1,160),(2,22),(3,3),(4,119)],true,5,56,[.ptr, .ptr, .sl, .int .i64, .fn],false⟩),
 (163,⟨.struct [(0,113),(1,160),(2,22),(3,3),(4,119)],true,5,56,[.ptr, .ptr, .sl, .int .i64, .fn],false⟩),
 (166,⟨.struct [(0,3),(1,3),(2,3),(3,9)],true,4,40,[.int .i64, .int .i64, .int .i64, .str],true⟩),
 (167,⟨.struct [(0,3),(1,3),(2,3),(3,9)],true,4,40,[.int .i64, .int .i64, .int .i64, .str],true⟩),
 (173,⟨.slice 9,false,1,24,[.sl],false⟩),
 (175,⟨.slice 177,false,1,24,[.sl],false⟩),
 (176,⟨.struct [(0,82),(5,108),(8,173)],true,9,112,[.str, .int .i64, .int .i64, .int .i64, .sl, .int .i64, .int .i64, .int .i64, .sl],false⟩),
 (177,⟨.struct [(0,82),(5,108),(8,173)],true,9,112,[.str, .int .i64, .int .i64, .int .i64, .sl, .int .i64, .int .i64, .int .i64, .sl],false⟩),
 (181,⟨.slice 46,false,1,24,[.sl],false⟩),
 (184,⟨.ptr 186,false,1,8,[.ptr],false⟩),
 (185,⟨.struct [(0,184),(1,84)],true,2,32,[.ptr, .sl],false⟩),
 (186,⟨.bld 5,true,2,32,[.ptr, .sl],false⟩),
 (188,⟨.iface,false,1,16,[.iface],false⟩),
 (189,⟨.iface,false,1,16,[.iface],false⟩),
 (210,⟨.int .u64,false,1,8,[.int .u64],false⟩),
 (226,⟨.ptr 5,false,1,8,[.ptr],false⟩),
 (229,⟨.map 3 3,false,1,8,[.map],false⟩),
 (233,⟨.int .i64,false,1,8,[.int .i64],false⟩),
 (240,⟨.int .u32,false,1,4,[.int .u32],false⟩),
 (242,⟨.int .u64,false,1,8,[.int .u64],false⟩),
 (254,⟨.array 10 5,true,10,10,List.replicate 10 (.int .u8),false⟩),
 (267,⟨.int .u64,false,1,8,[.int .u64],false⟩),
 (271,⟨.ptr 3,false,1,8,[.ptr],false⟩),
 (285,⟨.array 24 5,true,24,24,List.replicate 24 (.int .u8),false⟩),
 (291,⟨.ptr 267,false,1,8,[.ptr],false⟩),
 (299,⟨.array 20 242,true,20,160,[.int .u64, .int .u64, .int .u64, .int .u64, .int .u64, .int .u64, .int .u64, .int .u64, .int .u64, .int .u64, .int .u64, .int .u64, .int .u64, .int .u64, .int .u64, .int .u64, .int .u64, .int .u64, .int .u64, .int .u64],false⟩),
 (300,⟨.array 65 5,true,65,65,List.replicate 65 (.int .u8),false⟩),
 (303,⟨.array 32 5,true,32,32,List.replicate 32 (.int .u8),false⟩),
 (304,⟨.array 64 5,true,64,64,List.replicate 64 (.int .u8),false⟩),
 (305,⟨.struct [(0,17),(1,17),(2,17),(3,9)],true,4,40,[.ptr, .ptr, .ptr, .str],false⟩),
 (315,⟨.struct [(0,12),(1,12),(2,240),(3,310),(4,5),(5,5),(6,311),(7,312),(8,226),(9,313),(10,314)],true,11,48,[.int .u64, .int .u64, .int .u32, .int .u8, .int .u8, .int .u8, .int .u8, .fn, .ptr, .int .i32, .int .i32],false⟩)]
def K3:List ByteArray:=[⟨#[]⟩,⟨#[101,110,116,114,121]⟩,⟨#[98,101,108,116]⟩,⟨#[115,99,114,101,101,110]⟩,⟨#[100,105,118,101,114,116,101,114]⟩,⟨#[108,111,111,112]⟩,⟨#[103,97,116,101]⟩,⟨#[115,116,111,114,101]⟩,⟨#[99,104,117,116,101]⟩,⟨#[109,97,110,117,97,108]⟩]
def TK:List Int:=[0,1,28,2,29,14,24,3,30,22,20,15,25,17,4,8,31,27,13,23,21,19,16,7,26,12,18,6,11,5,10,9]
def L8:List Int:=[0,1,56,2,57,49,28,3,61,58,42,50,38,29,17,4,62,47,59,36,45,43,51,22,53,39,33,30,24,18,12,5,63,55,48,27,60,41,37,16,46,35,44,21,52,32,23,11,54,26,40,15,34,20,31,10,25,14,19,9,13,8,7,6]
def Pi:List Int:=[1,10,100,1000,10000,100000,1000000,10000000,100000000,1000000000,10000000000,100000000000,1000000000000,10000000000000,100000000000000,1000000000000000,10000000000000000,100000000000000000,1000000000000000000,10000000000000000000]
def kw:List (Nat×List AV):=[(0,[.sl (K3.map S) false]),(1,Pi.map fun n=> .lit (.int .u64 n)),(2,TK.map fun n=> .lit (.int .u8 n)),(3,L8.map fun n=> .lit (.int .u8 n))]
def ZN:List (Nat×Array Value):=[(1,(Pi.map fun z=>Value.int .u64 z).toArray)]
def Ad:AE:=⟨Qfl,kw,ZN⟩
theorem HP:B4 prog Ad:=mY kR
theorem QfK:tl Ad 3=⟨.int .i64,false,1,8,[.int .i64],false⟩:=rfl
theorem QfQ:tl Ad 4=⟨.bool,false,1,1,[.bool],false⟩:=rfl
theorem QfV:tl Ad 5=⟨.int .u8,false,1,1,[.int .u8],false⟩:=rfl
theorem Qf4:tl Ad 9=⟨.str,false,1,16,[.str],false⟩:=rfl
theorem QfD:tl Ad 22=⟨.slice 3,false,1,24,[.sl],false⟩:=rfl
theorem QfG:tl Ad 25=⟨.slice 82,false,1,24,[.sl],false⟩:=rfl
theorem QfI:tl Ad 26=⟨.slice 108,false,1,24,[.sl],false⟩:=rfl
theorem QfJ:tl Ad 28=⟨.struct [(0,25),(1,26)],true,2,48,[.sl, .sl],false⟩:=rfl
theorem QfM:tl Ad 31=⟨.slice 63,false,1,24,[.sl],false⟩:=rfl
theorem QfN:tl Ad 33=⟨.struct [(0,3),(1,31)],true,2,32,[.int .i64, .sl],false⟩:=rfl
theorem QfO:tl Ad 34=⟨.slice 22,false,1,24,[.sl],false⟩:=rfl
theorem QfP:tl Ad 36=⟨.struct [(0,34),(1,34)],true,2,48,[.sl, .sl],false⟩:=rfl
theorem QfR:tl Ad 40=⟨.slice 92,false,1,24,[.sl],false⟩:=rfl
theorem QfS:tl Ad 46=⟨.slice 95,false,1,24,[.sl],false⟩:=rfl
theorem QfT:tl Ad 48=⟨.slice 107,false,1,24,[.sl],false⟩:=rfl
theorem QfU:tl Ad 49=⟨.int .i64,false,1,8,[.int .i64],false⟩:=rfl
theorem QfW:tl Ad 53=⟨.slice 65,false,1,24,[.sl],false⟩:=rfl
theorem QfX:tl Ad 60=⟨.struct [(0,22),(1,3)],true,2,32,[.sl, .int .i64],false⟩:=rfl
theorem QfY:tl Ad 63=⟨.struct [(0,3),(1,36)],true,3,56,[.int .i64, .sl, .sl],false⟩:=rfl
theorem QfZ:tl Ad 65=⟨.struct [(0,3),(1,4),(2,9)],true,3,32,[.int .i64, .bool, .str],true⟩:=rfl
theorem Qf0:tl Ad 74=⟨.slice 77,false,1,24,[.sl],false⟩:=rfl
theorem Qf1:tl Ad 77=⟨.struct [(0,3),(1,3)],true,2,16,[.int .i64, .int .i64],true⟩:=rfl
theorem Qf2:tl Ad 82=⟨.struct [(0,9),(1,3),(2,3),(3,3),(4,22)],true,5,64,[.str, .int .i64, .int .i64, .int .i64, .sl],false⟩:=rfl
theorem Qf3:tl Ad 84=⟨.slice 5,false,1,24,[.sl],false⟩:=rfl
theorem Qf5:tl Ad 92=⟨.struct [(0,3),(1,3),(2,3)],true,3,24,[.int .i64, .int .i64, .int .i64],true⟩:=rfl
theorem Qf6:tl Ad 95=⟨.struct [(0,3),(1,3),(2,3)],true,3,24,[.int .i64, .int .i64, .int .i64],true⟩:=rfl
theorem Qf7:tl Ad 97=⟨.struct [(0,22),(1,22)],true,2,48,[.sl, .sl],false⟩:=rfl
theorem Qfn:tl Ad 107=⟨.struct [(0,3),(1,3),(2,3)],true,3,24,[.int .i64, .int .i64, .int .i64],true⟩:=rfl
theorem Qfo:tl Ad 108=⟨.struct [(0,3),(1,3),(2,3)],true,3,24,[.int .i64, .int .i64, .int .i64],true⟩:=rfl
theorem Qfp:tl Ad 113=⟨.ptr 157,false,1,8,[.ptr],false⟩:=rfl
theorem Qfq:tl Ad 119=⟨.other,false,1,8,[.fn],false⟩:=rfl
theorem Qfr:tl Ad 123=⟨.map 9 3,false,1,8,[.map],false⟩:=rfl
theorem Qfs:tl Ad 125=⟨.struct [(0,123),(1,31)],true,2,32,[.map, .sl],false⟩:=rfl
theorem QjW:tl Ad 126=⟨.slice 31,false,1,24,[.sl],false⟩:=rfl
theorem Qft:tl Ad 147=⟨.slice 4,false,1,24,[.sl],false⟩:=rfl
theorem Qfu:tl Ad 157=⟨.struct [(0,28),(2,22)],true,3,72,[.sl, .sl, .sl],false⟩:=rfl
theorem Qfv:tl Ad 160=⟨.ptr 125,false,1,8,[.ptr],false⟩:=rfl
theorem Qfw:tl Ad 163=⟨.struct [(0,113),(1,160),(2,22),(3,3),(4,119)],true,5,56,[.ptr, .ptr, .sl, .int .i64, .fn],false⟩:=rfl
theorem Qfx:tl Ad 167=⟨.struct [(0,3),(1,3),(2,3),(3,9)],true,4,40,[.int .i64, .int .i64, .int .i64, .str],true⟩:=rfl
theorem Qfy:tl Ad 173=⟨.slice 9,false,1,24,[.sl],false⟩:=rfl
theorem Qfz:tl Ad 175=⟨.slice 177,false,1,24,[.sl],false⟩:=rfl
theorem QfA:tl Ad 177=⟨.struct [(0,82),(5,108),(8,173)],true,9,112,[.str, .int .i64, .int .i64, .int .i64, .sl, .int .i64, .int .i64, .int .i64, .sl],false⟩:=rfl
theorem QfB:tl Ad 186=⟨.bld 5,true,2,32,[.ptr, .sl],false⟩:=rfl
theorem QfC:tl Ad 210=⟨.int .u64,false,1,8,[.int .u64],false⟩:=rfl
theorem QfE:tl Ad 229=⟨.map 3 3,false,1,8,[.map],false⟩:=rfl
theorem QfF:tl Ad 242=⟨.int .u64,false,1,8,[.int .u64],false⟩:=rfl
theorem QfH:tl Ad 254=⟨.array 10 5,true,10,10,List.replicate 10 (.int .u8),false⟩:=rfl
theorem QfL:tl Ad 304=⟨.array 64 5,true,64,64,List.replicate 64 (.int .u8),false⟩:=rfl
attribute [go_sem] QfK QfQ QfV Qf4 QfD QfG QfI QfJ QfM QfN QfO QfP QfR QfS QfT QfU QfW QfX QfY QfZ Qf0 Qf1 Qf2 Qf3 Qf5 Qf6 Qf7 Qfn Qfo Qfp Qfq Qfr Qfs QjW Qft Qfu Qfv Qfw Qfx Qfy Qfz QfA QfB QfC QfE QfF QfH QfL
def J4 (x n:Int):Int:=if n<1 then 0 else x % n
def QZ (x:Int):Prop:=-9223372036854775808<=x/\x<=9223372036854775807
theorem P7 {l:List Int} {n:Nat} (h:n<l.length):l.getD n 0∈l:=by rw[gE,gG h];exact gM h
theorem zH (x n:Int) (hx:QZ x) (IG:n<=9223372036854775807):Ag prog Ad 48 [] [I x,I n] [] (I (J4 x n)):=by
 obtain⟨hx,KP⟩:=hx;have h1:¬n<1->J4 x n=if x.tmod n<0 then x.tmod n+n else x.tmod n:=by
  intro h;rw[J4,iN h];by_cases J1:x<0
  .rw[Int.tmod_eq_emod];have:=Int.emod_nonneg x (b:=n) oM;have:=Int.emod_lt_of_pos x (b:=n) oM;have Ei:(n.natAbs:Int)=n:=oM;split<;>split<;>omega
  have G7:0<=x:=oM;have:=Int.tmod_nonneg n G7;rw[iN oM,Int.tmod_eq_emod_of_nonneg G7]
 have h2:¬n<1->-n<x.tmod n/\x.tmod n<n:=by intro h;have:=Int.tmod_lt_of_pos x (b:=n) oM;have:=Int.lt_tmod_of_pos x (b:=n) oM;omega
 refine Am func48 ntmps48 ?_;intro w e X hC;refine xy1 (fun h=>?_) (fun h=>?_)
 .refine xz3 ?_;try rfl
  simp only[go_sem,seval,J4,iP h]
 obtain⟨h3,h4⟩:=h2 h;refine xy1 (fun e=>?_) (fun e=>?_)
 .refine xz3 ?_;try rfl
  simp only[go_sem,seval,h1 h,iP e]
 refine xz3 ?_;try rfl
 simp only[go_sem,seval,h1 h,iN e]
def Jk (l:List Int) (a k:Nat):Nat:=min (a+k) l.length
theorem Qao {l:List Int} {a i:Nat}:l.getD (Jk l a i) 0=l.getD (a+i) 0:=by
 unfold Jk;by_cases h:a+i<l.length
 .rw[Nat.min_eq_left oM]
 rw[Nat.min_eq_right oM,gE,gE,List.getElem?_eq_none oM,List.getElem?_eq_none oM]
def GI (l:List Int):Prop:=l.length<=2000/\∀x∈l,QZ x
theorem GI.get {l:List Int} (hf:GI l) (a:Nat):QZ (l.getD a 0):=by
 by_cases h:a<l.length
 .exact hf.2 _ (P7 h)
 rw[gE,List.getElem?_eq_none oM];exact⟨dM,dM⟩
abbrev MU (l:List Int) (a:Nat):Hp:=[(0,some (0, .box [IS l,I a]))]
theorem Qb2 (l:List Int) (a:Nat) (hf:GI l) (ha:a<=l.length):
  Ag prog Ad 49 (MU l a) [.p 0 0 0 0 0] (MU l (Jk l a 1)) (I (l.getD a 0)):=by
 have BH:=hf.1;refine Am func49 ntmps49 ?_;intro w e X hC;refine uZ ?_;refine uK ?_;refine GF (fun e=>?_) (fun e=>?_)
 .have h:l.length<=a:=oM;refine uZ ?_;(refine Ay (MR rfl Ak Ak ?_ ?_);all_goals (first|refine uS ?_|exact uX|skip))
  .rw[gE,List.getElem?_eq_none h];rfl
  rw[show Jk l a 1=a by unfold Jk;omega]
 have h:a<l.length:=oM;refine uZ ?_;have e1:(a:Int)+1 - 1=(a:Int):=oM;refine DD (uI @e1 (Ao h)) ?_;(refine Ay (MR rfl Ak Ak ?_ ?_);all_goals (first|refine uS ?_|exact uX|skip))
 .rw[show Jk l a 1=a+1 by unfold Jk;omega];rfl
theorem Y4 (l:List Int) (a:Nat) (n:Int) (hf:GI l) (ha:a<=l.length) (hn:n<=9223372036854775807):
  Ag prog Ad 10 (MU l a) [.p 0 0 0 0 0,I n] (MU l (Jk l a 1)) (I (J4 (l.getD a 0) n)):=by
 refine Am func10 ntmps10 ?_;intro w e X hC;refine xz8 ?_;intro K hK;refine CY rfl ((Qb2 l a hf ha)) Ak Ak Ak Ak Ak ?_;refine uS ?_;refine xz0 ((zH (l.getD a 0) n (hf.get a) hn)) ?_;refine hK _ ?_;clear hK K;(refine Ay (MR rfl Ak Ak ?_ ?_);all_goals (first|refine uS ?_|exact uX|skip))
theorem Y2 {x n:Int} (h:1<=n):0<=J4 x n/\J4 x n<n:=by unfold J4;rw[iN oM];exact⟨Int.emod_nonneg _ oM,Int.emod_lt_of_pos _ oM⟩
structure Nd where
 nm:ByteArray
 kd:Int
 ln:Int
 zn:Int
 ex:List Int
 deriving Inhabited
abbrev Nd.av (x:Nd):AV:= .agg [S x.nm,I x.kd,I x.ln,I x.zn,IS x.ex]
def AA (l:List Nd):List AV:=l.map Nd.av
theorem QF (l:List Nd):(AA l).length=l.length:=by simp[AA]
theorem AG {l:List Nd} {i:Nat} (h:i<l.length):(AA l).getD i .bad=(l.getD i default).av:=by simp[AA,h]
theorem mP (l:List Nd):PE (AA l)=True:=by refine eq_true fun e he c hc=>?_;simp only[AA,List.mem_map] at he;obtain⟨x,_,rfl⟩:=he;simp only[AV.cells,List.mem_cons,List.not_mem_nil,or_false] at hc;rcases hc with rfl|rfl|rfl|rfl|rfl<;>first|trivial|rfl
theorem iH {l:List Nd} {nm:ByteArray} {kd:Int} {ln:Int} {zn:Int} {ex:List Int}:AA l++[.agg [.lit (.string nm), .lit (.int .i64 kd), .lit (.int .i64 ln), .lit (.int .i64 zn), .sl (As ex) false]]=AA (l++[⟨nm,kd,ln,zn,ex⟩]):=by simp[AA]
attribute [go_sem] QF mP iH
structure T3 where
 a:Int
 b:Int
 c:Int
 deriving Inhabited
abbrev T3.av (x:T3):AV:= .agg [I x.a,I x.b,I x.c]
def Ai (l:List T3):List AV:=l.map T3.av
theorem ku (l:List T3):(Ai l).length=l.length:=by simp[Ai]
theorem By {l:List T3} {i:Nat} (h:i<l.length):(Ai l).getD i .bad=(l.getD i default).av:=by simp[Ai,h]
theorem mV (l:List T3):PE (Ai l)=True:=by refine eq_true fun e he c hc=>?_;simp only[Ai,List.mem_map] at he;obtain⟨x,_,rfl⟩:=he;simp only[AV.cells,List.mem_cons,List.not_mem_nil,or_false] at hc;rcases hc with rfl|rfl|rfl<;>first|trivial|rfl
theorem nj {l:List T3}:(∀y∈Ai l,y.cells.length=3)=True:=by refine eq_true fun e he=>?_;simp only[Ai,List.mem_map] at he;obtain⟨x,_,rfl⟩:=he;rfl
theorem QS {l:List T3} {a:Int} {b:Int} {c:Int}:Ai l++[.agg [.lit (.int .i64 a), .lit (.int .i64 b), .lit (.int .i64 c)]]=Ai (l++[⟨a,b,c⟩]):=by simp[Ai]
theorem kv {l:List T3} {i:Nat} {a:Int} {b:Int} {c:Int}:(Ai l).set i (.agg [.lit (.int .i64 a), .lit (.int .i64 b), .lit (.int .i64 c)])=Ai (l.set i ⟨a,b,c⟩):=by simp[Ai,List.map_set]
theorem S6 {l:List T3} {i:Nat}:(Ai l).take i=Ai (l.take i):=by simp[Ai]
theorem Qfj:Ai []=[]:=rfl
attribute [go_sem] ku mV nj QS kv
structure Ly where
 U:List Nd
 D:List T3
abbrev Ly.av (x:Ly):AV:= .agg [.sl (AA x.U) false, .sl (Ai x.D) false]
structure Pl where
 Q:List (List Int)
 R:List (List Int)
abbrev Pl.av (x:Pl):AV:= .agg [RS x.Q,RS x.R]
theorem Qb1 (l:List Int) (a:Nat) (lo hi:Int) (hf:GI l) (ha:a<=l.length) (h1:-1000000<=lo/\lo<=1000000) (h2:-1000000<=hi/\hi<=1000000) (h:lo<=hi):
  Ag prog Ad 12 (MU l a) [.p 0 0 0 0 0,I lo,I hi] (MU l (Jk l a 1)) (I (lo+J4 (l.getD a 0) (hi - lo+1))):=by
 have hm:=Y2 (x:=l.getD a 0) (n:=hi - lo+1) oM;refine Am func12 ntmps12 ?_;intro w e X hC;refine xz8 ?_;intro K hK;refine⟨oM,oM,?_⟩;refine CY rfl ((Y4 l a (hi - lo+1) hf ha oM)) Ak Ak Ak Ak Ak ?_;refine uS ?_;refine⟨oM,?_⟩;refine hK _ ?_;clear hK K;(refine Ay (MR rfl Ak Ak ?_ ?_);all_goals (first|refine uS ?_|exact uX|skip))
theorem QbB (l:List Int) (a:Nat) (es:List Int) (hf:GI l) (ha:a<=l.length) (h0:0<es.length) (hn:es.length<=9223372036854775807):
  Ag prog Ad 53 (MU l a) [.p 0 0 0 0 0,IS es] (MU l (Jk l a 1)) (I (es.getD (J4 (l.getD a 0) es.length).toNat 0)):=by
 have hm:=Y2 (x:=l.getD a 0) (n:=es.length) oM;refine Am func53 ntmps53 ?_;intro w e X hC;refine xz8 ?_;intro K hK;refine CY rfl ((Y4 l a es.length hf ha oM)) Ak Ak Ak Ak Ak ?_;refine uS ?_;generalize J4 (l.getD a 0) es.length=m at*;have Aa:m.toNat<es.length:=oM;first|refine Ap (Ao Aa) ?_|exact Aq (Ao Aa)
 refine⟨(by(repeat' apply And.intro)<;>first|omega|simp),?_⟩;refine hK _ ?_;clear hK K;(refine Ay (MR rfl Ak Ak ?_ ?_);all_goals (first|refine uS ?_|exact uX|skip))
theorem NP (l:List Int) (x:Int) (hn:l.length<=9223372036854775807):Ag prog Ad 46 [] [IS l,I x] [] (B (decide (x∈l))):=by
 refine Am func46 ntmps46 ?_;intro w e X hC;refine xy4 ?_;refine Aw (fun i:Nat×Nat=>⟨[(0,IS l),(1,I x),(5,I i.2)],[],i.1⟩) (fun i=>i.2<=l.length/\∀j,j<i.2->l.getD j 0≠x) (fun i=>l.length - i.2) (_,0) ⟨zL _,fun j hj=>absurd hj (nZ _)⟩ (Af) ?_;rintro⟨ck,i⟩ ⟨hi,hj⟩;simp only at hi hj;refine xy1 (fun h=>?_) (fun h=>?_)
 .have Aa:i<l.length:=oM;refine Bg (Ao Aa) ?_;refine uW ?_;refine Aj _ rfl (fun e'=>?_) (fun e'=>?_)
  .refine xz3 ?_;try rfl
   have:x∈l:=by rw[<-e'];exact P7 Aa
   exact Aq @this
  refine uZ ?_;refine⟨(_,i+1),⟨oM,fun j Ah=>?_⟩,uO,Af⟩;by_cases AF:j=i
  .subst AF;exact e'
  exact hj j oM
 refine At ?_;refine xz3 ?_;try rfl
 have:¬x∈l:=fun hm=>by obtain⟨j,Ah,rfl⟩:=List.getElem_of_mem hm;exact hj j oM (by simp[Ah])
 exact Aq @this
theorem yW {a b:List Int} (h:a.length=b.length) (h':∀j,j<a.length->a.getD j 0=b.getD j 0):a=b:=by refine List.ext_getElem h fun j h1 h2=>?_;have:=h' j h1;simpa[h1,h2] using this
theorem YL (a b:List Int) (ha:a.length<=9223372036854775807):Ag prog Ad 36 [] [IS a,IS b] [] (B (decide (a=b))):=by
 refine Am func36 ntmps36 ?_;intro w e X hC;refine xy1 (fun h=>?_) (fun h=>?_)
 .refine xz3 ?_;try rfl
  have:a≠b:=fun e=>h (by rw[e]);exact Aq @this
 refine uZ ?_;have KA:a.length=b.length:=oM;refine uW ?_;refine Aw (fun i:Nat×Nat=>⟨[(0,IS a),(1,IS b),(5,I i.2)],[],i.1⟩) (fun i=>i.2<=a.length/\∀j,j<i.2->a.getD j 0=b.getD j 0) (fun i=>a.length - i.2) (_,0) ⟨zL _,fun j hj=>absurd hj (nZ _)⟩ (Af) ?_;rintro⟨ck,i⟩ ⟨hi,hj⟩;simp only at hi hj;refine xy4 ?_;refine Aj _ rfl (fun h'=>?_) (fun h'=>?_)
 .have Aa:i<a.length:=oM;have OL:i<b.length:=oM;refine DD (uI (Ao Aa) (Ao OL)) ?_;refine uW ?_;refine Aj _ rfl (fun e'=>?_) (fun e'=>?_)
  .refine xz3 ?_;try rfl
   have:a≠b:=fun e''=>e' (by rw[e'']);exact Aq @this
  refine uZ ?_;refine⟨(_,i+1),⟨oM,fun j Ah=>?_⟩,uO,Af⟩;by_cases AF:j=i
  .subst AF;exact Classical.not_not.1 e'
  exact hj j oM
 refine At ?_;refine xz3 ?_;try rfl
 have:a=b:=yW KA fun j h1=>hj j oM;exact Aq @this
abbrev Cf (l:List Int) (a:Nat):Hp:=MU l (min a l.length)
theorem WQ {l:List Int} {a:Nat}:l.getD (min a l.length) 0=l.getD a 0:=by have:=Qao (l:=l) (a:=a) (i:=0);simpa[Jk] using this
theorem Y0 {l:List Int} {a:Nat}:Jk l (min a l.length) 1=min (a+1) l.length:=by unfold Jk;omega
def gN (l:List Int) (a:Nat) (n:Int):Int:=J4 (l.getD a 0) n
def gR (l:List Int) (a:Nat) (lo hi:Int):Int:=lo+gN l a (hi - lo+1)
def gP (l:List Int) (a:Nat) (es:List Int):Int:=es.getD (gN l a es.length).toNat 0
theorem Lh {l:List Int} {a:Nat} {n:Int} (h:1<=n):0<=gN l a n/\gN l a n<n:=Y2 h
theorem Nk (l:List Int) (a:Nat) (n:Int) (hf:GI l) (hn:n<=9223372036854775807):Ag prog Ad 10 (Cf l a) [.p 0 0 0 0 0,I n] (Cf l (a+1)) (I (gN l a n)):=by
 have:=Y4 l (min a l.length) n hf oM hn
 rwa[WQ,Y0] at this
theorem P4 (l:List Int) (a:Nat) (lo hi:Int) (hf:GI l) (h1:-1000000<=lo/\lo<=1000000) (h2:-1000000<=hi/\hi<=1000000) (h:lo<=hi):
  Ag prog Ad 12 (Cf l a) [.p 0 0 0 0 0,I lo,I hi] (Cf l (a+1)) (I (gR l a lo hi)):=by
 have:=Qb1 l (min a l.length) lo hi hf oM h1 h2 h
 rwa[WQ,Y0] at this
theorem Rw (l:List Int) (a:Nat) (es:List Int) (hf:GI l) (h0:0<es.length) (hn:es.length<=9223372036854775807):
  Ag prog Ad 53 (Cf l a) [.p 0 0 0 0 0,IS es] (Cf l (a+1)) (I (gP l a es)):=by
 have:=QbB l (min a l.length) es hf oM h0 hn
 rwa[WQ,Y0] at this
def Ae (es:List Int) (x:Int):List Int:=es.filter fun y=>decide (y≠x)
def gO (l:List Int) (a:Nat) (es:List Int) (x:Int):Int×Nat:=
 if Ae es x=[] then(-1,a) else((Ae es x).getD (gN l a (Ae es x).length).toNat 0,a+1)
theorem jt {es:List Int} {x:Int} {i:Nat} (h:i<es.length):Ae (es.take (i+1)) x=Ae (es.take i) x++(if es.getD i 0≠x then[es.getD i 0] else[]):=by rw[List.take_add_one,gG h,Option.toList_some,Ae,List.filter_append,gE,gG h];simp only[List.filter_cons,List.filter_nil,Option.getD_some,Ae];by_cases h:es[i]=x<;>simp[h]
theorem dP (l:List Int) (a:Nat) (es:List Int) (x:Int) (hf:GI l) (hn:es.length<=1000):
  Ag prog Ad 100 (Cf l a) [.p 0 0 0 0 0,IS es,I x] (Cf l (gO l a es x).2) (I (gO l a es x).1):=by
 refine Am func100 ntmps100 ?_;intro w e X hC;refine xy4 ?_;refine Aw (fun i:Nat×Nat=>⟨[(0, .p 0 0 0 0 0),(1,IS es),(2,I x),(7, .l 107 2 0 (Ae (es.take i.2) x).length),(8,I i.2)],(107,some (2, .own 3 1 (As (Ae (es.take i.2) x))))::Cf l a,i.1⟩) (fun i=>i.2<=es.length) (fun i=>es.length - i.2) (_,0) (zL _) (Af) ?_;rintro⟨ck,i⟩ hi;simp only at hi;refine xy1 (fun h=>?_) (fun h=>?_)
 .have Aa:i<es.length:=oM;refine Bg (Ao Aa) ?_;have e1:=jt (x:=x) Aa;have Ej:(Ae (es.take i) x).length<=es.length:=Nat.le_trans (List.length_filter_le _ _) vv2;refine uW ?_;refine Aj _ rfl (fun e'=>?_) (fun e'=>?_)
  .refine Bg (Ao Aa) ?_;rw[iP e'] at e1;refine⟨(_,i+1),uO,uO, .of (lR _) (.cons ?_ Cb) (.cons rfl (.cons rfl (.cons rfl (.cons ?_ A4))))⟩
   .exact Aq @e1
   exact Aq @e1
  rw[iN e',List.append_nil] at e1;refine uZ ?_;refine⟨(_,i+1),uO,uO, .of (lR _) (.cons ?_ Cb) (.cons rfl (.cons rfl (.cons rfl (.cons ?_ A4))))⟩
  .exact Aq @e1
  exact Aq @e1
 refine At ?_;have Ar:i=es.length:=oM;subst Ar;rw[List.take_length];have Ej:(Ae es x).length<=es.length:=List.length_filter_le _ _;refine xy4 ?_;refine Aj _ rfl (fun e'=>?_) (fun e'=>?_)
 .refine uZ ?_;have e1:Ae es x=[]:=List.length_eq_zero_iff.1 oM;(refine Ay (MR rfl Ak Ak ?_ ?_);all_goals (first|refine uS ?_|exact uX|skip))
  .simp only[gO,iP e1]
  simp only[gO,iP e1]
 have e1:¬Ae es x=[]:=fun h=>e' (by rw[h];rfl);have e2:0<(Ae es x).length:=oM;have hm:=Lh (l:=l) (a:=a) (n:=(Ae es x).length) oM;refine xz8 ?_;intro K hK;refine CY rfl ((Nk l a _ hf oM)) Ak Ak Ak Ak Ak ?_;refine uS ?_;have e3:(gN l a (Ae es x).length).toNat<(Ae es x).length:=oM;first|refine Ap (Ao e3) ?_|exact Aq (Ao e3)
 refine⟨(by(repeat' apply And.intro)<;>first|omega|simp),e3,?_⟩;refine hK _ ?_;clear hK K;(refine Ay (MR rfl Ak Ak ?_ ?_);all_goals (first|refine uS ?_|exact uX|skip))
 .simp only[gO,iN e1]
 simp only[gO,iN e1]
def gS (l:List Int) (a:Nat) (i z:Int) (kinds to:List Int):Nd×Nat:=
 let kd:=gP l a kinds
 let ln:=gR l (a+1) 1 3
 let f:=gO l (a+2) to (-1)
 if kd=5 then(⟨.empty,kd,ln+1,z,[i,f.1]⟩,f.2)
 else if kd=4 then
  let g:=gO l f.2 to f.1
  if g.1<0 then(⟨.empty,2,ln,z,[f.1]⟩,g.2) else(⟨.empty,kd,ln,z,[f.1,g.1]⟩,g.2)
 else(⟨.empty,kd,ln,z,[f.1]⟩,f.2)
theorem Iu {l:List Int} {a:Nat} {lo hi:Int} (h:lo<=hi):lo<=gR l a lo hi/\gR l a lo hi<=hi:=by have:=Lh (l:=l) (a:=a) (n:=hi - lo+1) oM;unfold gR;omega
theorem ZK (l:List Int) (a:Nat) (i z:Int) (kinds to:List Int) (hf:GI l) (hk:0<kinds.length/\kinds.length<=1000) (hn:to.length<=1000):
  Ag prog Ad 45 (Cf l a) [.p 0 0 0 0 0,I i,I z,IS kinds,IS to] (Cf l (gS l a i z kinds to).2) (gS l a i z kinds to).1.av:=by
 have hr:=Iu (l:=l) (a:=a+1) (lo:=1) (hi:=3) oM;refine Am func45 ntmps45 ?_;intro w e X hC;refine xz8 ?_;intro K hK;refine CY rfl ((Rw l a _ hf hk.1 oM)) Ak Ak Ak Ak Ak ?_;refine uS ?_;refine CY rfl ((P4 l (a+1) 1 3 hf oM oM oM)) Ak Ak Ak Ak Ak ?_;refine uS ?_;refine hK _ ?_;clear hK K;refine uR ?_;intro K hK;refine CY rfl ((dP l (a+1+1) to (-1) hf hn)) Ak Ak Ak Ak Ak ?_;refine uS ?_;refine hK _ ?_;clear hK K;refine uR ?_;intro K hK;refine hK _ ?_;clear hK K;refine xy1 (fun h=>?_) (fun h=>?_)
 .refine xz4 ?_;rw[show f45.results.toList=[.cell 10 82] from rfl];(refine(Pm D4 rfl LS LS ?_ ?_);all_goals (first|refine S9 ?_|exact Ta|skip))
  .simp only[gS,iP h];rfl
  simp only[gS,iP h]
 refine xy1 (fun h2=>?_) (fun h2=>?_)
 .refine xz8 ?_;intro K hK;refine CY rfl ((dP l (gO l (a+1+1) to (-1)).2 to (gO l (a+1+1) to (-1)).1 hf hn)) Ak Ak Ak Ak Ak ?_;refine uS ?_;refine hK _ ?_;clear hK K;refine xy1 (fun h3=>?_) (fun h3=>?_)
  .refine xz4 ?_;rw[show f45.results.toList=[.cell 10 82] from rfl];(refine(Pm D4 rfl LS LS ?_ ?_);all_goals (first|refine S9 ?_|exact Ta|skip))
   .simp only[gS,iN h,iP h2,iP h3];rfl
   simp only[gS,iN h,iP h2,iP h3]
  refine xz4 ?_;rw[show f45.results.toList=[.cell 10 82] from rfl];(refine(Pm D4 rfl LS LS ?_ ?_);all_goals (first|refine S9 ?_|exact Ta|skip))
  .simp only[gS,iN h,iP h2,iN h3];rfl
  simp only[gS,iN h,iP h2,iN h3]
 refine xz4 ?_;rw[show f45.results.toList=[.cell 10 82] from rfl];(refine(Pm D4 rfl LS LS ?_ ?_);all_goals (first|refine S9 ?_|exact Ta|skip))
 .simp only[gS,iN h,iN h2];rfl
 simp only[gS,iN h,iN h2]
def FZ (l:List Int) (x:Nd) (i w:Nat) (o:List T3×Nat):List T3×Nat:=
 if o.1.length<24 then(if gN l o.2 3=0\/((w:Int)=x.ln - 1/\x.kd=6) then(o.1++[⟨2,i,w⟩],o.2+1) else(o.1,o.2+1)) else o
def Kl (l:List Int) (i w:Nat) (o:List T3×Nat):List T3×Nat:=
 if o.1.length<24 then(if gN l o.2 2=0 then(o.1++[⟨1,i,w⟩],o.2+1) else(o.1,o.2+1)) else o
def IY (l:List Int) (x:Nd) (i:Nat) (o:List T3×Nat):Nat->List T3×Nat
 |0=>o|w+1=>Kl l i w (FZ l x i w (IY l x i o w))
def EG (l:List Int) (xs:List Nd) (a:Nat):Nat->List T3×Nat
 |0=>([],a)|i+1=>IY l (xs.getD i default) i (EG l xs a i) (xs.getD i default).ln.toNat
def gD (l:List Int) (a:Nat) (xs:List Nd):List T3×Nat:=EG l xs a xs.length
theorem cu {l:List Int} {x:Nd} {i w:Nat} {o:List T3×Nat} (h:o.1.length<=24):(FZ l x i w o).1.length<=24:=by
 unfold FZ;split
 .split<;>simp<;>omega
 exact h
theorem qc {l:List Int} {i w:Nat} {o:List T3×Nat} (h:o.1.length<=24):(Kl l i w o).1.length<=24:=by
 unfold Kl;split
 .split<;>simp<;>omega
 exact h
theorem Wr {l:List Int} {x:Nd} {i:Nat} {o:List T3×Nat} (h:o.1.length<=24):∀w,(IY l x i o w).1.length<=24
 |0=>h|w+1=>qc (cu (Wr h w))
theorem Wq {l:List Int} {xs:List Nd} {a:Nat}:∀i,(EG l xs a i).1.length<=24
 |0=>by simp[EG]|i+1=>Wr (Wq i) _
theorem pW (l:List Int) (a:Nat) (xs:List Nd) (ds:List T3) (hf:GI l) (hn:xs.length<=1000) (hx:∀i,i<xs.length->0<=(xs.getD i default).ln/\(xs.getD i default).ln<=1000):
  Ag prog Ad 47 (Cf l a) [.p 0 0 0 0 0,(Ly.mk xs ds).av] (Cf l (gD l a xs).2) (.sl (Ai (gD l a xs).1) false):=by
 refine Am func47 ntmps47 ?_;intro w e X hC;refine xy4 ?_;refine Aw (fun i:Nat×Nat=>⟨[(0, .p 0 0 0 0 0),(3, .p 103 1 0 0 0),(5, .l 105 3 0 (EG l xs a i.2).1.length),(6,I i.2)],(105,some (3, .own 108 3 (Ai (EG l xs a i.2).1)))::(103,some (1, .box [.sl (AA xs) false, .sl (Ai ds) false]))::Cf l (EG l xs a i.2).2,i.1⟩) (fun i=>i.2<=xs.length) (fun i=>xs.length - i.2) (_,0) (zL _) (Af) ?_;rintro⟨ck,i⟩ hi;simp only at hi;refine xy1 (fun h=>?_) (fun h=>?_)
 .have Aa:i<xs.length:=oM;have YB:=hx i Aa;refine xy4 ?_;refine Aw (fun j:Nat×Nat=>⟨[(0, .p 0 0 0 0 0),(3, .p 103 1 0 0 0),(5, .l 105 3 0 (IY l (xs.getD i default) i (EG l xs a i) j.2).1.length),(6,I i),(7,I j.2)],(105,some (3, .own 108 3 (Ai (IY l (xs.getD i default) i (EG l xs a i) j.2).1)))::(103,some (1, .box [.sl (AA xs) false, .sl (Ai ds) false]))::Cf l (IY l (xs.getD i default) i (EG l xs a i) j.2).2,j.1⟩) (fun j=>j.2<=(xs.getD i default).ln.toNat) (fun j=>(xs.getD i default).ln.toNat - j.2) (_,0) (zL _) (Af) ?_;rintro⟨ck,j⟩ hj;simp only at hj;have AR:=Wr (l:=l) (x:=xs.getD i default) (i:=i) (Wq (l:=l) (xs:=xs) (a:=a) i) j;have e1:IY l (xs.getD i default) i (EG l xs a i) (j+1)=Kl l i j (FZ l (xs.getD i default) i j (IY l (xs.getD i default) i (EG l xs a i) j)):=rfl;generalize e4:IY l (xs.getD i default) i (EG l xs a i) j=o at*;generalize J1:xs.getD i default=x at*;refine Bg (uI (AG Aa) @J1) ?_;refine GF (fun h2=>?_) (fun h2=>?_)
  .have Co:j<x.ln.toNat:=oM;refine xz2 (uI (AG Aa) @J1) ?_;refine A5 ?_;refine CE (fun q:Nat=>⟨[(0, .p 0 0 0 0 0),(3, .p 103 1 0 0 0),(5, .l 105 3 0 (FZ l x i j o).1.length),(6,I i),(7,I j)],(105,some (3, .own 108 3 (Ai (FZ l x i j o).1)))::(103,some (1, .box [.sl (AA xs) false, .sl (Ai ds) false]))::Cf l (FZ l x i j o).2,q⟩) (fun _=>True) ?_ ?_
   .by_cases c1:o.1.length<24
    .have d1:=uDt ((o.1.length:Int)<24);refine Av (uI (AG Aa) (uI @J1 @d1)) ?_;intro K hK;refine CY rfl ((Nk l o.2 3 hf oM)) Ak Ak Ak Ak Ak ?_;refine uS ?_;have push (e':gN l o.2 3=0\/((j:Int)=x.ln - 1/\x.kd=6)):FZ l x i j o=(o.1++[⟨2,i,j⟩],o.2+1):=by rw[FZ,iP c1,iP e']
     have pass (e':¬(gN l o.2 3=0\/((j:Int)=x.ln - 1/\x.kd=6))):FZ l x i j o=(o.1,o.2+1):=by rw[FZ,iP c1,iN e']
     by_cases c2:gN l o.2 3=0
     .have d2:decide (gN l o.2 3=0)=true:=dT c2;first|refine Ap @d2 ?_|exact Aq @d2
      refine hK _ ?_;clear hK K;refine uT ?_;refine Bg @QS ?_;rw[push (.inl c2)];refine⟨_,trivial,Af⟩
     have d2:decide (gN l o.2 3=0)=false:=dF c2;first|refine Ap @d2 ?_|exact Aq @d2
     by_cases c3:(j:Int)=x.ln - 1
     .have d3:decide ((j:Int)=x.ln - 1)=true:=dT c3;first|refine Ap (uI @d3 (uI (AG Aa) @J1)) ?_|exact Aq (uI @d3 (uI (AG Aa) @J1))
      refine⟨(by(repeat' apply And.intro)<;>first|omega|simp),?_⟩;by_cases c4:x.kd=6
      .have d4:decide (x.kd=6)=true:=dT c4;refine hK _ ?_;clear hK K;simp only[d4];refine uT ?_;refine Bg @QS ?_;rw[push (.inr ⟨c3,c4⟩)];refine⟨_,trivial,Af⟩
      have d4:decide (x.kd=6)=false:=dF c4;refine hK _ ?_;clear hK K;simp only[d4];refine uF ?_;rw[pass (fun h=>h.elim c2 (fun h=>c4 h.2))];refine BQ ⟨_,trivial,Af⟩
     have d3:decide ((j:Int)=x.ln - 1)=false:=dF c3;first|refine Ap @d3 ?_|exact Aq @d3
     refine hK _ ?_;clear hK K;refine uF ?_;rw[pass (fun h=>h.elim c2 (fun h=>c3 h.1))];refine BQ ⟨_,trivial,Af⟩
    have d1:=uDf ((o.1.length:Int)<24);refine xy8 (uI (AG Aa) (uI @J1 @d1)) ?_;refine uF ?_;rw[show FZ l x i j o=o by rw[FZ,iN c1]];refine BQ ⟨_,trivial,Af⟩
   intro ck _;have KJ:(FZ l x i j o).1.length<=24:=cu AR;generalize FZ l x i j o=o1 at*;by_cases c1:o1.1.length<24
   .have d1:=uDt ((o1.1.length:Int)<24);refine Av @d1 ?_;intro K hK;refine CY rfl ((Nk l o1.2 2 hf oM)) Ak Ak Ak Ak Ak ?_;refine uS ?_;refine hK _ ?_;clear hK K;refine GF (fun c2=>?_) (fun c2=>?_)
    .refine Bg @QS ?_;have e2:Kl l i j o1=(o1.1++[⟨1,i,j⟩],o1.2+1):=by rw[Kl,iP c1,iP c2]
     refine⟨(_,j+1),uO,uO, .of (lR _) (Ax (uI @e1 @e2)) (AS (uI @e1 @e2))⟩
    refine uZ ?_;have e2:Kl l i j o1=(o1.1,o1.2+1):=by rw[Kl,iP c1,iN c2]
    refine⟨(_,j+1),uO,uO, .of (lR _) (Ax (uI @e1 @e2)) (AS (uI @e1 @e2))⟩
   have d1:=uDf ((o1.1.length:Int)<24);refine xy8 @d1 ?_;refine uF ?_;have e2:Kl l i j o1=o1:=by rw[Kl,iN c1]
   refine uZ ?_;refine⟨(_,j+1),uO,uO, .of (lR _) (Ax (uI @e1 @e2)) (AS (uI @e1 @e2))⟩
  refine At ?_;have Ah:j=x.ln.toNat:=oM;have e3:EG l xs a (i+1)=IY l x i (EG l xs a i) j:=by rw[Ah,<-J1];rfl
  refine uZ ?_;refine⟨(_,i+1),uO,uO, .of (lR _) (Ax (uI @e3 @e4)) (AS (uI @e3 @e4))⟩
 refine At ?_;have Ar:i=xs.length:=oM;subst Ar;refine uZ ?_;(refine Ay (MR rfl Ak Ak ?_ ?_);all_goals (first|refine uS ?_|exact uX|skip))
 .rfl
 rfl
def Kf (lo:Nat):Nat->List Int
 |0=>[]|k+1=>Kf lo k++[((lo+k:Nat):Int)]
theorem Tb (lo:Nat):∀k,(Kf lo k).length=k
 |0=>rfl|k+1=>by rw[Kf,aL,Tb lo k];rfl
def KV (i:Nat):ByteArray:=strOf [UInt8.ofNat (65+i)]
def GH (A n i:Nat):List Int:=Kf (i+1) (A - i)++[((n - 2:Nat):Int)]
def Fw (A n i:Nat):List Int:=Kf (max i A+1) (n - 2 - (max i A+1))++[((n - 1:Nat):Int)]
def D3 (l:List Int) (A B n i a:Nat):Nd×Nat:=
 if i=0 then gS l a i 0 [1] (GH A n i)
 else if i<A then gS l a i 0 [2,3,4,5,3] (GH A n i)
 else if i=A then(⟨.empty,6,gR l a 1 3,0,[((n - 2:Nat):Int),gP l (a+1) (Fw A n i)]⟩,a+2)
 else if i<A+1+B then
  let x:=gS l a i 1 [2,4,5,7] (Fw A n i)
  if x.1.kd=7 then({x.1 with ln:=0},x.2) else x
 else if i<n - 2 then(⟨.empty,8,0,1,[]⟩,a)
 else(⟨.empty,9,0,((i - (n - 2):Nat):Int),[]⟩,a)
def EO (l:List Int) (A B n a:Nat):Nat->List Nd×Nat
 |0=>([],a)|i+1=>((EO l A B n a i).1++[{(D3 l A B n i (EO l A B n a i).2).1 with nm:=KV i}],(D3 l A B n i (EO l A B n a i).2).2)
def LG (x:Nd×Bool):AV:= .agg [S x.1.nm,I x.1.kd,I x.1.ln,I x.1.zn,if x.2 then .kid 3 1 (As x.1.ex) else IS x.1.ex]
def Ek (l:List (Nd×Bool)):List AV:=l.map LG
def Ol (i:Nat) (x:Nd):Nd:={x with ex:=((i+1:Nat):Int)::x.ex.drop 1}
def F6 (xs:List Nd):Nat->List (Nd×Bool)
 |0=>xs.map fun x=>(x,false)|i+1=>if(xs.getD i default).kd≠5/\((i+1:Nat):Int)∉(xs.getD i default).ex then(F6 xs i).set i (Ol i (xs.getD i default),true) else F6 xs i
def Is (xs:List Nd) (i:Nat):List Nd:=(F6 xs i).map (·.1)
theorem Dx (l:List (Nd×Bool)):(Ek l).length=l.length:=by simp[Ek]
theorem NS (xs:List Nd):∀i,(F6 xs i).length=xs.length
 |0=>by simp[F6]|i+1=>by rw[F6];split<;>simp[NS xs i]
theorem Y1 {xs:List Nd} {j:Nat}:∀i,i<=j->j<xs.length->(Ek (F6 xs i)).getD j .bad=(xs.getD j default).av
 |0,_,h=>by simp[Ek,F6,h,LG]|i+1,h,hj=>by
  rw[F6];split
  .have:=Y1 i oM hj;rw[Ek,List.map_set,gE,List.getElem?_set_ne oM,<-gE];exact this
  exact Y1 i oM hj
theorem iC (xs:List Nd):AA xs=Ek (xs.map fun x=>(x,false)):=by simp[AA,Ek,LG]
theorem iD {l:List (Nd×Bool)} {i:Nat} {nm:ByteArray} {kd ln zn:Int} {ex:List Int}:
  (Ek l).set i (.agg [.lit (.string nm), .lit (.int .i64 kd), .lit (.int .i64 ln), .lit (.int .i64 zn), .kid 3 1 (As ex)])=Ek (l.set i (⟨nm,kd,ln,zn,ex⟩,true)):=by
 simp[Ek,List.map_set,LG]
theorem rN (n:Nat) (hp:Hp) (v:Value):fz n hp (.lit v)= .lit v:=vk3
theorem dI (n:Nat) (hp:Hp) (es:List AV) (b:Bool):fz n hp (.sl es b)= .sl es false:=vk3
theorem rM (n:Nat) (hp:Hp) (t k:Nat) (es:List AV):fz n hp (.kid t k es)= .sl es false:=vk3
theorem Ft (l:List (Nd×Bool)) (n:Nat) (hp:Hp):(Ek l).map (AH (fz n hp))=AA (l.map (·.1)):=by simp only[Ek,AA,List.map_map];refine List.map_congr_left fun x _=>?_;obtain⟨x,b⟩:=x;cases b<;>simp[LG,AH,rN,dI,rM]
theorem Fu (l:List (Nd×Bool)) (n:Nat) (hp:Hp):(∀e∈Ek l,∀c∈e.cells,fzP n hp c)=True:=by refine eq_true fun e he c hc=>?_;obtain⟨x,_,rfl⟩:=List.mem_map.1 he;obtain⟨x,b⟩:=x;simp only[LG,AV.cells,List.mem_cons,List.not_mem_nil,or_false] at hc;rcases hc with rfl|rfl|rfl|rfl|rfl<;>cases n<;>first|trivial|(cases b<;>trivial)
theorem Fv (l:List (Nd×Bool)) (n:Nat) (hp:Hp):((Ek l).flatMap fun e=>e.cells.flatMap (fzR n hp))=[]:=by refine Ng fun e he=>Ng fun c hc=>?_;obtain⟨x,_,rfl⟩:=List.mem_map.1 he;obtain⟨x,b⟩:=x;simp only[LG,AV.cells,List.mem_cons,List.not_mem_nil,or_false] at hc;rcases hc with rfl|rfl|rfl|rfl|rfl<;>cases n<;>first|rfl|(cases b<;>rfl)
def gL (l:List Int) (a:Nat):Ly×Nat:=
 let A:=(gR l a 1 3).toNat
 let B:=(gR l (a+1) 0 3).toNat
 let n:=A+1+B+(gR l (a+2) 1 2).toNat+2
 let r:=EO l A B n (a+3) n
 let xs:=if 0<gN l r.2 4 then Is r.1 A else r.1
 (⟨xs,(gD l (r.2+1) xs).1⟩,(gD l (r.2+1) xs).2)
theorem NQ (l:List Int) (A B n a:Nat):∀i,(EO l A B n a i).1.length=i
 |0=>rfl|i+1=>by rw[EO,aL,NQ l A B n a i];rfl
theorem dQ {l:List Int} {a:Nat} {i z:Int} {kinds to:List Int}:1<=(gS l a i z kinds to).1.ex.length/\(gS l a i z kinds to).1.ex.length<=2:=by
 unfold gS;simp only;split
 .simp
 split
 .split<;>simp
 simp
theorem SP {l:List Int} {A B n a j:Nat}:∀i,j<i->(EO l A B n a i).1.getD j default={(D3 l A B n j (EO l A B n a j).2).1 with nm:=KV j}
 |0,h=>absurd h (nZ _)|i+1,h=>by
  have hl:=NQ l A B n a i;rw[EO];by_cases hj:j=i
  .subst hj;simp only[gE];rw[List.getElem?_append_right oM,hl];simp
  have ih:=SP (l:=l) (A:=A) (B:=B) (n:=n) (a:=a) (j:=j) i oM;rw[gE] at ih ⊢;rw[List.getElem?_append_left oM];exact ih
theorem zc {l:List Int} {A B n a i j:Nat} (h:j<i) (hA:0<A) (hj:j<A):1<=((EO l A B n a i).1.getD j default).ex.length/\((EO l A B n a i).1.getD j default).ex.length<=2:=by
 rw[SP i h];simp only[D3];by_cases h0:j=0
 .rw[iP h0];exact dQ
 rw[iN h0,iP hj];exact dQ
def Ks (k:Nat) (x:Nd):Nd:=if x.kd≠5/\((k+1:Nat):Int)∉x.ex then Ol k x else x
theorem dh {k:Nat} {x:Nd}:(Ks k x).ln=x.ln/\(Ks k x).kd=x.kd/\(Ks k x).zn=x.zn/\(Ks k x).nm=x.nm:=by unfold Ks;split<;>exact⟨rfl,rfl,rfl,rfl⟩
theorem WD {xs:List Nd} {i:Nat}:(Is xs i).length=xs.length:=by rw[Is,List.length_map,NS]
theorem TU {xs:List Nd} {k:Nat} (hk:k<xs.length):∀i,(Is xs i).getD k default=if k<i then Ks k (xs.getD k default) else xs.getD k default
 |0=>by rw[iN oM,Is,F6,List.map_map];exact congrArg (fun l=>List.getD l k default) (List.map_id' xs)|i+1=>by
  have ih:=TU hk i;have e:Is xs (i+1)=if(xs.getD i default).kd≠5/\((i+1:Nat):Int)∉(xs.getD i default).ex then(Is xs i).set i (Ol i (xs.getD i default)) else Is xs i:=by
   rw[Is,F6];split
   .rw[List.map_set];rfl
   rfl
  rw[e];by_cases Mn:k=i
  .subst Mn;rw[iN (Nat.lt_irrefl k)] at ih;rw[iP (Nat.lt_succ_self k),Ks];split
   .have Aa:k<(Is xs k).length:=by rw[WD];exact hk
    rw[gE,List.getElem?_set_self Aa];rfl
   exact ih
  have hs:(if k<i+1 then Ks k (xs.getD k default) else xs.getD k default)=if k<i then Ks k (xs.getD k default) else xs.getD k default:=by
   by_cases h:k<i
   .rw[iP h,iP oM]
   rw[iN h,iN oM]
  rw[hs,<-ih];split
  .rw[gE,List.getElem?_set_ne (fun h=>Mn h.symm),<-gE]
  rfl
theorem sd {l:List Int} {a:Nat} {i z:Int} {kinds to:List Int}:1<=(gS l a i z kinds to).1.ln/\(gS l a i z kinds to).1.ln<=4:=by
 have:=Iu (l:=l) (a:=a+1) (lo:=1) (hi:=3) oM;unfold gS;simp only;split
 .simp only;omega
 split
 .split<;>(simp only;omega)
 simp only;omega
theorem ze {l:List Int} {A B n i a:Nat}:0<=(D3 l A B n i a).1.ln/\(D3 l A B n i a).1.ln<=4:=by
 have:=Iu (l:=l) (a:=a) (lo:=1) (hi:=3) oM;have h2 (z kinds to):=sd (l:=l) (a:=a) (i:=(i:Int)) (z:=z) (kinds:=kinds) (to:=to);unfold D3;split
 .have:=h2 0 [1] (GH A n i);omega
 split
 .have:=h2 0 [2,3,4,5,3] (GH A n i);omega
 split
 .simp only;omega
 split
 .have:=h2 1 [2,4,5,7] (Fw A n i);simp only;split
  .simp
  omega
 split<;>simp
theorem zd {l:List Int} {A B n a i j:Nat} (h:j<i):0<=((EO l A B n a i).1.getD j default).ln/\((EO l A B n a i).1.getD j default).ln<=4:=by rw[SP i h];exact ze
theorem yL (l:List Int) (a:Nat) (hf:GI l):
  Ag prog Ad 9 (Cf l a) [.p 0 0 0 0 0] (Cf l (gL l a).2) (gL l a).1.av:=by
 obtain⟨hA1,hA2⟩:=Iu (l:=l) (a:=a) (lo:=1) (hi:=3) oM;obtain⟨hB1,WV⟩:=Iu (l:=l) (a:=a+1) (lo:=0) (hi:=3) oM;obtain⟨hC1,hC2⟩:=Iu (l:=l) (a:=a+2) (lo:=1) (hi:=2) oM;have sA:=P4 l a 1 3 hf oM oM oM;have sB:=P4 l (a+1) 0 3 hf oM oM oM;have sC:=P4 l (a+2) 1 2 hf oM oM oM;unfold gL;obtain⟨A,hA⟩:∃A:Nat,gR l a 1 3=A:=⟨(gR l a 1 3).toNat,oM⟩;obtain⟨B,hB⟩:∃A:Nat,gR l (a+1) 0 3=A:=⟨(gR l (a+1) 0 3).toNat,oM⟩;obtain⟨D,hD⟩:∃A:Nat,gR l (a+2) 1 2=A:=⟨(gR l (a+2) 1 2).toNat,oM⟩;have hA3:1<=A/\A<=3:=oM;have hB3:B<=3:=oM;have hD3:1<=D/\D<=2:=oM;simp only[hA,hB,hD,Int.toNat_natCast];refine Am func9 ntmps9 ?_;intro w e X hC;refine xz8 ?_;intro K hK;refine CY rfl (sA) Ak Ak Ak Ak Ak ?_;refine uS ?_;refine CY rfl (sB) Ak Ak Ak Ak Ak ?_;refine uS ?_;refine CY rfl (sC) Ak Ak Ak Ak Ak ?_;refine uS ?_;refine hK _ ?_;clear hK K;refine uZ ?_;obtain⟨n,hn⟩:∃n,n=A+1+B+D+2:=⟨_,rfl⟩;rw[<-hn];have EY:(A:Int)+1+B+D+2=n:=oM;have EZ:(n:Int) - 2=((n - 2:Nat):Int):=oM;have vW:A+4<=n/\n<=11:=oM;refine uW ?_;refine Aw (fun i:Nat×Nat×Nat=>⟨[(0, .p 0 0 0 0 0),(2, .p 102 1 0 0 0),(3,I A),(4,I B),(6,I n),(7,I A),(8,I (n - 2:Nat)),(9, .p 109 24 0 0 0),(10,I i.2.1)],
  (109,some (24, .box [F8 i.2.1 (.l 239 i.2.2 0 i.2.1), .sl [] true]))::(239,F9 i.2.1 (i.2.2, .own 82 5 (AA (EO l A B n (a+3) i.2.1).1)))::(102,some (1, .box [.sl [] true, .sl [] true]))::Cf l (EO l A B n (a+3) i.2.1).2,i.1⟩)
  (fun i=>i.2.1<=n) (fun i=>n - i.2.1) (_,0,0) (zL _) (.of (lR _) Cb (AS (uI @hA (uI @hB (uI (show a+1+1=a+2 from rfl) (uI @hD (uI @EY @EZ))))))) ?_
 rintro⟨ck,i,g⟩ hi;simp only at hi;refine xy1 (fun h=>?_) (fun h=>?_)
 .refine uZ ?_;generalize e1:(EO l A B n (a+3) i).1=xs;generalize e2:(EO l A B n (a+3) i).2=a';refine uW ?_;refine Aw (fun j:Nat×Nat=>⟨[(0, .p 0 0 0 0 0),(2, .p 102 1 0 0 0),(3,I A),(4,I B),(6,I n),(7,I A),(8,I (n - 2:Nat)),(9, .p 109 24 0 0 0),(10,I i),(11, .l 111 (ck+3) 0 j.2),(12, .l 112 (ck+4) 0 0),(13,I (i+1+j.2:Nat))],
   (111,some (ck+3, .own 3 1 (As (Kf (i+1) j.2))))::(112,some (ck+4, .own 3 1 []))::(109,some (24, .box [F8 i (.l 239 g 0 i), .sl [] true]))::(239,F9 i (g, .own 82 5 (AA xs)))::(102,some (1, .box [.sl [] true, .sl [] true]))::Cf l a',j.1⟩) (fun j=>j.2<=A - i) (fun j=>A - i - j.2) (_,0) (zL _) (Af) ?_
  rintro⟨ck2,j⟩ hj;simp only at hj;refine xy1 (fun h2=>?_) (fun h2=>?_)
  .have NI:=Tb (i+1) j;refine uZ ?_;refine⟨(_,j+1),uO,uO, .of (lR _) (by repeat first|exact AX.nil|refine Jq ?_|(refine AX.cons ?_ ?_;(focus (simp only[go_sem,seval,-Int.reduceNatCast',Kf];done)))) vv4⟩
  refine At ?_;have Ah:j=A - i:=oM;subst Ah;have NI:=Tb (i+1) (A - i);refine uZ ?_;have hm:(if(i:Int)<A then(A:Int) else i)+1=((max i A+1:Nat):Int):=by split<;>omega
  have G8:(GH A n i).length=A - i+1:=by rw[GH,aL,NI];rfl
  refine uW ?_;refine Aw (fun j:Nat×Nat=>⟨[(0, .p 0 0 0 0 0),(2, .p 102 1 0 0 0),(3,I A),(4,I B),(6,I n),(7,I A),(8,I (n - 2:Nat)),(9, .p 109 24 0 0 0),(10,I i),(11, .l 111 (ck+3) 0 (A - i+1)),(12, .l 112 (ck+4) 0 j.2),(14,I (max i A+1+j.2:Nat))],
   (111,some (ck+3, .own 3 1 (As (GH A n i))))::(112,some (ck+4, .own 3 1 (As (Kf (max i A+1) j.2))))::(109,some (24, .box [F8 i (.l 239 g 0 i), .sl [] true]))::(239,F9 i (g, .own 82 5 (AA xs)))::(102,some (1, .box [.sl [] true, .sl [] true]))::Cf l a',j.1⟩) (fun j=>j.2<=n - 2 - (max i A+1)) (fun j=>n - 2 - (max i A+1) - j.2) (_,0) (zL _) (.of (lR _) Cb (AS @hm)) ?_
  rintro⟨ck3,j⟩ hj;simp only at hj;refine xy1 (fun h3=>?_) (fun h3=>?_)
  .have NI:=Tb (max i A+1) j;refine uZ ?_;refine⟨(_,j+1),uO,uO, .of (lR _) (by repeat first|exact AX.nil|refine Jq ?_|(refine AX.cons ?_ ?_;(focus (simp only[go_sem,seval,-Int.reduceNatCast',Kf];done)))) vv4⟩
  refine At ?_;have Ah:j=n - 2 - (max i A+1):=oM;subst Ah;have NI:=Tb (max i A+1) (n - 2 - (max i A+1));have AR:(Fw A n i).length=n - 2 - (max i A+1)+1:=by rw[Fw,aL,NI];rfl
  have X2:(n:Int) - 1=((n - 1:Nat):Int):=oM;refine xz2 @X2 ?_;refine uR ?_;refine xx8 ?_;refine L3 (s':=⟨[(0, .p 0 0 0 0 0),(2, .p 102 1 0 0 0),(3,I A),(4,I B),(6,I n),(7,I A),(8,I (n - 2:Nat)),(9, .p 109 24 0 0 0),(10,I i),(11,IS (GH A n i)),(12,IS (Fw A n i)),(15, .p 115 (ck3+9) 0 0 0)],(115,some (ck3+9, .box [S .empty,I 0,I 0,I 0, .sl [] true]))::(109,some (24, .box [F8 i (.l 239 g 0 i), .sl [] true]))::(239,F9 i (g, .own 82 5 (AA xs)))::(102,some (1, .box [.sl [] true, .sl [] true]))::Cf l a',_⟩) (.of (lR _) Cb (AS (uI @G8 @AR))) ?_;refine A5 ?_;refine CE (fun q:Nat×Nat=>⟨[(0, .p 0 0 0 0 0),(2, .p 102 1 0 0 0),(3,I A),(4,I B),(6,I n),(7,I A),(8,I (n - 2:Nat)),(9, .p 109 24 0 0 0),(10,I i),(15, .p 115 q.2 0 0 0)],(115,some (q.2, .box [S (D3 l A B n i a').1.nm,I (D3 l A B n i a').1.kd,I (D3 l A B n i a').1.ln,I (D3 l A B n i a').1.zn,IS (D3 l A B n i a').1.ex]))::(109,some (24, .box [F8 i (.l 239 g 0 i), .sl [] true]))::(239,F9 i (g, .own 82 5 (AA xs)))::(102,some (1, .box [.sl [] true, .sl [] true]))::Cf l (D3 l A B n i a').2,q.1⟩) (fun _=>True) ?_ ?_
  .refine xy1 (fun c1=>?_) (fun c1=>?_)
   .refine uR ?_;intro K hK;refine CY rfl ((ZK l a' i 0 [1] (GH A n i) hf ⟨dM,dM⟩ oM)) Ak Ak Ak Ak Ak ?_;refine uS ?_;refine hK _ ?_;clear hK K;have e3:D3 l A B n i a'=gS l a' i 0 [1] (GH A n i):=iP oM;simp only[e3];refine uW ?_;refine⟨(_,_),trivial,Af⟩
   have c1':¬i=0:=oM;refine xy1 (fun c2=>?_) (fun c2=>?_)
   .refine uR ?_;intro K hK;refine CY rfl ((ZK l a' i 0 [2,3,4,5,3] (GH A n i) hf ⟨dM,dM⟩ oM)) Ak Ak Ak Ak Ak ?_;refine uS ?_;refine hK _ ?_;clear hK K;have e3:D3 l A B n i a'=gS l a' i 0 [2,3,4,5,3] (GH A n i):=by rw[D3,iN c1',iP oM]
    simp only[e3];refine uW ?_;refine⟨(_,_),trivial,Af⟩
   have c2':¬i<A:=oM;refine xy1 (fun c3=>?_) (fun c3=>?_)
   .have c3':i=A:=oM;refine uR ?_;intro K hK;refine CY rfl ((P4 l a' 1 3 hf oM oM oM)) Ak Ak Ak Ak Ak ?_;refine uS ?_;have HD:1<=(Fw A n i).length:=oM;have Fo:=Lh (l:=l) (a:=a'+1) (n:=(Fw A n i).length) oM;refine CY rfl ((Nk l (a'+1) _ hf oM)) Ak Ak Ak Ak Ak ?_;refine uS ?_;have HE:(gN l (a'+1) (Fw A n i).length).toNat<(Fw A n i).length:=oM;first|refine Ap (Ao HE) ?_|exact Aq (Ao HE)
    refine⟨(by(repeat' apply And.intro)<;>first|omega|simp),?_⟩;refine hK _ ?_;clear hK K;have e3:D3 l A B n i a'=(⟨.empty,6,gR l a' 1 3,0,[((n - 2:Nat):Int),gP l (a'+1) (Fw A n i)]⟩,a'+2):=by rw[D3,iN c1',iN c2',iP c3']
    simp only[e3];refine uW ?_;refine⟨(_,_),trivial,Af⟩
   refine xy1 (fun c4=>?_) (fun c4=>?_)
   .have c3':¬i=A:=oM;have e3:D3 l A B n i a'=if(gS l a' i 1 [2,4,5,7] (Fw A n i)).1.kd=7 then({(gS l a' i 1 [2,4,5,7] (Fw A n i)).1 with ln:=0},(gS l a' i 1 [2,4,5,7] (Fw A n i)).2) else gS l a' i 1 [2,4,5,7] (Fw A n i):=by rw[D3,iN c1',iN c2',iN c3',iP oM]
    refine uR ?_;intro K hK;refine CY rfl ((ZK l a' i 1 [2,4,5,7] (Fw A n i) hf ⟨dM,dM⟩ oM)) Ak Ak Ak Ak Ak ?_;refine uS ?_;refine hK _ ?_;clear hK K;refine xy1 (fun c5=>?_) (fun c5=>?_)
    .refine uZ ?_;rw[iP c5] at e3;simp only[e3];refine⟨(_,_),trivial,Af⟩
    refine uW ?_;rw[iN c5] at e3;simp only[e3];refine⟨(_,_),trivial,Af⟩
   have c3':¬i=A:=oM;have c4':¬i<A+1+B:=oM;refine xy1 (fun c5=>?_) (fun c5=>?_)
   .have e3:D3 l A B n i a'=(⟨.empty,8,0,1,[]⟩,a'):=by rw[D3,iN c1',iN c2',iN c3',iN c4',iP oM]
    refine uZ ?_;simp only[e3];refine⟨(_,_),trivial,Af⟩
   have e3:D3 l A B n i a'=(⟨.empty,9,0,((i - (n - 2):Nat):Int),[]⟩,a'):=by rw[D3,iN c1',iN c2',iN c3',iN c4',iN oM]
   have e5:(i:Int) - ((n - 2:Nat):Int)=((i - (n - 2):Nat):Int):=oM;refine uZ ?_;refine uZ ?_;simp only[e3];refine⟨(_,_),trivial, .of (lR _) (Ax @e5) A4⟩
  rintro⟨ck4,gx⟩ _;generalize e6:D3 l A B n i a'=x;simp only;refine uZ ?_;have hb:bytesOf [.lit (.int .u8 (IntKind.u8.wrap (65+(i:Int))))]=some [UInt8.ofNat (65+i)]:=by
   have e7:IntKind.u8.wrap (65+(i:Int))=((65+i:Nat):Int):=by have:IntKind.u8.wrap (65+(i:Int))=(65+(i:Int)) % 256:=rfl;omega
   rw[e7];rfl
  refine Av @hb ?_;intro K hK;refine⟨(by(repeat' apply And.intro)<;>first|omega|simp),?_⟩;refine hK _ ?_;clear hK K;have e8:EO l A B n (a+3) (i+1)=(xs++[{x.1 with nm:=KV i}],x.2):=by rw[EO,e2,e6,e1]
  have C4:xs.length=i:=by rw[<-e1];exact NQ l A B n (a+3) i
  have OX:AA xs++[.agg [.lit (.string (strOf [UInt8.ofNat (65+i)])),I x.1.kd,I x.1.ln,I x.1.zn,IS x.1.ex]]=AA (xs++[{x.1 with nm:=KV i}]):=by rw[iH];rfl
  by_cases CH:i=0
  .have J1:xs=[]:=List.length_eq_zero_iff.1 oM;subst CH;subst J1;simp only[Ji,Jj];have wJ:[.agg [.lit (.string (strOf [UInt8.ofNat 65])),I x.1.kd,I x.1.ln,I x.1.zn,IS x.1.ex]]=AA [{x.1 with nm:=KV 0}]:=rfl;refine uZ ?_;refine⟨(_,0+1,_),uO,uO, .of (lR _) (Ax (uI @e8 (uI @FQ (uI @FR @wJ)))) A4⟩
  simp only[Hd CH,He CH];refine Bg (uI @C4 @OX) ?_;refine⟨(_,i+1,_),uO,uO, .of (lR _) (Ax (uI @e8 (uI @FQ @FR))) A4⟩
 refine At ?_;have A2:i=n:=oM;subst A2;have C2:i≠0:=oM;generalize e1:(EO l A B i (a+3) i).1=xs;generalize e2:(EO l A B i (a+3) i).2=a';have C4:xs.length=i:=by rw[<-e1];exact NQ l A B i (a+3) i
 simp only[Hd C2,He C2];refine A5 ?_;have Dv:(F6 xs A).map (·.1)=Is xs A:=rfl;refine CE (fun q:Nat×Nat=>⟨[(0, .p 0 0 0 0 0),(2, .p 102 1 0 0 0),(9, .p 109 24 0 0 0)],
  (109,some (24, .box [.sl (AA (if 0<gN l a' 4 then Is xs A else xs)) false, .sl [] true]))::(102,some (1, .box [.sl [] true, .sl [] true]))::Cf l (a'+1),q.1⟩) (fun _=>True) ?_ ?_
 .refine uR ?_;intro K hK;refine CY rfl ((Nk l a' 4 hf oM)) Ak Ak Ak Ak Ak ?_;refine uS ?_;refine hK _ ?_;clear hK K;refine GF (fun c1=>?_) (fun c1=>?_)
  .refine xy4 ?_;refine Aw (fun j:Nat×Nat=>⟨[(0, .p 0 0 0 0 0),(2, .p 102 1 0 0 0),(7,I A),(9, .p 109 24 0 0 0),(16,I j.2)],(109,some (24, .box [.l 239 g 0 i, .sl [] true]))::(239,some (g, .own 82 5 (Ek (F6 xs j.2))))::(102,some (1, .box [.sl [] true, .sl [] true]))::Cf l (a'+1),j.1⟩) (fun j=>j.2<=A) (fun j=>A - j.2) (_,0) (zL _) (.of (lR _) (by repeat first|exact AX.nil|refine Jq ?_|(refine AX.cons ?_ ?_;(focus (simp only[go_sem,seval,-Int.reduceNatCast',iC,F6];done)))) vv4) ?_;rintro⟨ck5,j⟩ hj;simp only at hj;refine xy1 (fun h2=>?_) (fun h2=>?_)
   .have vq:j<xs.length:=oM;have Gw:=NS xs j;have Mr:=Y1 (xs:=xs) (j:=j) j (lR _) vq;generalize e7:xs.getD j default=x at*;obtain⟨G7,hx2⟩:1<=x.ex.length/\x.ex.length<=2:=by rw[<-e7,<-e1];exact zc oM oM oM
    have e8:F6 xs (j+1)=if x.kd≠5/\((j+1:Nat):Int)∉x.ex then(F6 xs j).set j (Ol j x,true) else F6 xs j:=by rw[<-e7];rfl
    have ej:(j:Int)+1=((j+1:Nat):Int):=oM;by_cases c2:x.kd=5
    .have d2:decide (¬x.kd=5)=false:=dF oM;rw[iN (fun h=>h.1 c2)] at e8;refine xz2 (uI @Dx (uI @Gw (uI @Mr @d2))) ?_;refine xy9 ?_;refine⟨(_,j+1),uO,uO, .of (lR _) (Ax @e8) A4⟩
    have d2:decide (¬x.kd=5)=true:=dT c2;refine Av (uI @Dx (uI @Gw (uI @Mr @d2))) ?_;intro K hK;refine uH ?_;rw[ej];refine JA Ak ((NP x.ex ((j+1:Nat):Int) oM)) Ak Ak Ak ?_;refine uS ?_;by_cases c3:((j+1:Nat):Int)∈x.ex
    .have d3:decide (((j+1:Nat):Int)∈x.ex)=true:=dT c3;rw[iN (fun h=>h.2 c3)] at e8;first|refine Ap @d3 ?_|exact Aq @d3
     refine hK _ ?_;clear hK K;refine xy9 ?_;refine⟨(_,j+1),uO,uO, .of (lR _) (Ax @e8) A4⟩
    have d3:decide (((j+1:Nat):Int)∈x.ex)=false:=dF c3;rw[iP ⟨c2,c3⟩] at e8;first|refine Ap @d3 ?_|exact Aq @d3
    refine hK _ ?_;clear hK K;refine uT ?_;(repeat first|refine A5 ?_|refine BQ ?_|refine B5 ?_);refine M4 hC kR kR rfl fun K hK=>?_;simp only[go_sem,seval,Dx,Gw,Mr,gZ,List.length_drop]
    have DH:(Ek (F6 xs j)).set j (.agg [S x.nm,I x.kd,I x.ln,I x.zn, .kid 3 1 (.lit (.int .i64 ((j:Int)+1))::As (x.ex.drop 1))])=Ek ((F6 xs j).set j (Ol j x,true)):=by rw[ej];exact iD (ex:=((j+1:Nat):Int)::x.ex.drop 1)
    (repeat ((with_reducible refine And.intro ?_ ?_);focus (((repeat' apply And.intro)<;>first|omega|(simp;done)|kernel_rfl))))
    refine hK _ ?_;clear hK K;simp only[and_self,if_false,DH];refine uZ ?_;refine⟨(_,j+1),uO,uO, .of (lR _) (Ax @e8) A4⟩
   refine At ?_;have vn:j=A:=oM;subst vn;refine uW ?_;refine⟨(_,0),trivial, .of (lR _) (by repeat (first|exact AX.nil|refine AX.cons rfl ?_|refine AX.gone ?_|refine AX.opt rfl ?_|(refine AX.cons ?_ ?_;(focus (simp only[go_sem,seval,-Int.reduceNatCast',iP c1,Ft,Fu,Fv,Dx,NS,C4,Dv];done)))|(refine AX.less rfl (FV.ofBW ?_) ?_;(focus ((repeat (first|exact BW.nil|refine BW.same ?_|(refine BW.frz ?_ ?_ ?_ ?_;(focus (first|exact trivial|(simp only[go_sem,seval,-Int.reduceNatCast',iP c1,Ft,Fu,Fv,Dx,NS,C4,Dv]<;>trivial)));(focus (first|rfl|((simp only[go_sem,seval,-Int.reduceNatCast',iP c1,Ft,Fu,Fv,Dx,NS,C4,Dv]<;>rfl);done)));(focus (first|(simp only[go_sem,seval,-Int.reduceNatCast',iP c1,Ft,Fu,Fv,Dx,NS,C4,Dv];done)|((simp only[go_sem,seval,-Int.reduceNatCast',iP c1,Ft,Fu,Fv,Dx,NS,C4,Dv]<;>simp);done)|(simp;done)))))));done)))) (by repeat (first|exact BA.nil|refine BA.cons rfl ?_|(refine BA.cons ?_ ?_;(focus (simp only[go_sem,seval,-Int.reduceNatCast'];done)))|(refine BA.snap ?_ ?_ ?_ ?_;(focus (first|exact trivial|(simp only[go_sem,seval,-Int.reduceNatCast']<;>trivial)));(focus (first|rfl|((simp only[go_sem,seval,-Int.reduceNatCast']<;>rfl);done)));(focus (first|(simp only[go_sem,seval,-Int.reduceNatCast'];done)|((simp only[go_sem,seval,-Int.reduceNatCast']<;>simp);done)|(simp;done))))))⟩
  refine uW ?_;refine⟨(_,0),trivial, .of (lR _) (by repeat (first|exact AX.nil|refine AX.cons rfl ?_|refine AX.gone ?_|refine AX.opt rfl ?_|(refine AX.cons ?_ ?_;(focus (simp only[go_sem,seval,-Int.reduceNatCast',iN c1,QF,C4];done)))|(refine AX.less rfl (FV.ofBW ?_) ?_;(focus ((repeat (first|exact BW.nil|refine BW.same ?_|(refine BW.frz ?_ ?_ ?_ ?_;(focus (first|exact trivial|(simp only[go_sem,seval,-Int.reduceNatCast',iN c1,QF,C4]<;>trivial)));(focus (first|rfl|((simp only[go_sem,seval,-Int.reduceNatCast',iN c1,QF,C4]<;>rfl);done)));(focus (first|(simp only[go_sem,seval,-Int.reduceNatCast',iN c1,QF,C4];done)|((simp only[go_sem,seval,-Int.reduceNatCast',iN c1,QF,C4]<;>simp);done)|(simp;done)))))));done)))) (by repeat (first|exact BA.nil|refine BA.cons rfl ?_|(refine BA.cons ?_ ?_;(focus (simp only[go_sem,seval,-Int.reduceNatCast'];done)))|(refine BA.snap ?_ ?_ ?_ ?_;(focus (first|exact trivial|(simp only[go_sem,seval,-Int.reduceNatCast']<;>trivial)));(focus (first|rfl|((simp only[go_sem,seval,-Int.reduceNatCast']<;>rfl);done)));(focus (first|(simp only[go_sem,seval,-Int.reduceNatCast'];done)|((simp only[go_sem,seval,-Int.reduceNatCast']<;>simp);done)|(simp;done))))))⟩
 rintro⟨ck6,u⟩ _;have Gw:(if 0<gN l a' 4 then Is xs A else xs).length=i:=by
  split
  .rw[WD,C4]
  exact C4
 generalize xz:(if 0<gN l a' 4 then Is xs A else xs)=ys at*;simp only;refine uR ?_;intro K hK;have YE:∀k,k<ys.length->0<=(ys.getD k default).ln/\(ys.getD k default).ln<=1000:=by
  intro k hk;have:=zd (l:=l) (A:=A) (B:=B) (n:=i) (a:=a+3) (i:=i) (j:=k) oM;rw[e1] at this;rw[<-xz];split
  .rw[TU oM];split
   .rw[dh.1];omega
   omega
  omega
 refine CY rfl ((pW l (a'+1) ys [] hf oM YE)) Ak Ak Ak Ak Ak ?_;refine uS ?_;refine hK _ ?_;clear hK K;refine uR ?_;refine xx8 ?_;refine Ay ?_;rw[show f9.results.toList=[.cell 2 28] from rfl];(refine(Pm D4 rfl LS LS ?_ ?_);all_goals (first|refine S9 ?_|exact Ta|skip))
def Od (l:List Int):List Int:=l.take 2000
theorem zQ (l:List Int) (h:l.length<=9223372036854775807):Ag prog Ad 8 [] [IS l] [(100,some (1, .box [IS (Od l),I 0]))] (.p 100 1 0 0 0):=by
 refine Am func8 ntmps8 ?_;intro w e X hC;refine xy1 (fun h=>?_) (fun h=>?_)
 .refine uZ ?_;have e:As (l.take 2000)=As (Od l):=rfl;simp only[O5,e];refine Ay ?_;rw[show f8.results.toList=[.tmp 2] from rfl];(refine DB [(100,1,110,10)] D4 sM sM sM Bp Bp Bp ?_ ?_;all_goals (first|refine Fb ?_|exact Fc|skip))
 have e:l=Od l:=by rw[Od,List.take_of_length_le oM]
 refine uZ ?_;rw[<-e];refine Ay ?_;rw[show f8.results.toList=[.tmp 2] from rfl];(refine DB [(100,1,110,7)] D4 sM sM sM Bp Bp Bp ?_ ?_;all_goals (first|refine Fb ?_|exact Fc|skip))
def EF (l:List Int) (x:Nd) (a:Nat):Int×Nat:=
 if x.kd=7 then(gN l a 8,a+1)
 else if x.kd=8\/x.kd=9 then(0,a)
 else if x.kd=5 then(gP l a [1,1,0],a+1)
 else if x.kd=4\/x.kd=6 then(gP l a [1,0,1,0,-1],a+1)
 else(gP l a [0,0,0,0,-1],a+1)
def HY (l:List Int) (xs:List Nd) (a:Nat):Nat->List Int×Nat
 |0=>([],a)|i+1=>((HY l xs a i).1++[(EF l (xs.getD i default) (HY l xs a i).2).1],(EF l (xs.getD i default) (HY l xs a i).2).2)
def gC (l:List Int) (a:Nat) (xs:List Nd):List Int×Nat:=HY l xs a xs.length
theorem Rf (l:List Int) (xs:List Nd) (a:Nat):∀i,(HY l xs a i).1.length=i
 |0=>rfl|i+1=>by rw[HY,aL,Rf l xs a i];rfl
theorem pH (l:List Int) (a:Nat) (y:Ly) (hf:GI l) (hn:y.U.length<=1000):
  Ag prog Ad 16 (Cf l a) [.p 0 0 0 0 0,y.av] (Cf l (gC l a y.U).2) (IS (gC l a y.U).1):=by
 refine Am func16 ntmps16 ?_;intro w e X hC;refine xy4 ?_;refine Aw (fun i:Nat×Nat=>⟨[(0, .p 0 0 0 0 0),(3, .p 103 1 0 0 0),(5, .l 105 3 0 i.2),(6,I i.2)],(105,some (3, .own 3 1 (As (HY l y.U a i.2).1)))::(103,some (1, .box [.sl (AA y.U) false, .sl (Ai y.D) false]))::Cf l (HY l y.U a i.2).2,i.1⟩) (fun i=>i.2<=y.U.length) (fun i=>y.U.length - i.2) (_,0) (zL _) (Af) ?_;rintro⟨ck,i⟩ hi;simp only at hi;refine xy1 (fun h=>?_) (fun h=>?_)
 .have Aa:i<y.U.length:=oM;have e1:HY l y.U a (i+1)=((HY l y.U a i).1++[(EF l (y.U.getD i default) (HY l y.U a i).2).1],(EF l (y.U.getD i default) (HY l y.U a i).2).2):=rfl;have Cy:=Rf l y.U a i;generalize HY l y.U a i=cs at*;generalize e2:y.U.getD i default=x at*;refine uR ?_;refine xx8 ?_;refine A5 ?_;refine CE (fun q:Nat=>⟨[(0, .p 0 0 0 0 0),(3, .p 103 1 0 0 0),(5, .l 105 3 0 i),(6,I i),(7,I (EF l x cs.2).1)],(105,some (3, .own 3 1 (As cs.1)))::(103,some (1, .box [.sl (AA y.U) false, .sl (Ai y.D) false]))::Cf l (EF l x cs.2).2,q⟩) (fun _=>True) ?_ ?_
  .have kds:x.kd=7\/x.kd=8\/x.kd=9\/x.kd=5\/x.kd=4\/x.kd=6\/(¬x.kd=7/\¬x.kd=8/\¬x.kd=9/\¬x.kd=5/\¬x.kd=4/\¬x.kd=6):=oM;rcases kds with c|c|c|c|c|c|⟨c1,c2,c3,c4,c5,c6⟩
   .have e3:EF l x cs.2=(gN l cs.2 8,cs.2+1):=vw0;refine IB (uI (AG Aa) (uI @e2 @c)) ?_;refine uR ?_;intro K hK;refine CY rfl ((Nk l cs.2 8 hf oM)) Ak Ak Ak Ak Ak ?_;refine uS ?_;refine hK _ ?_;clear hK K;refine uW ?_;refine⟨_,trivial, .of (lR _) (Ax @e3) (AS @e3)⟩
   .have e3:EF l x cs.2=(0,cs.2):=vw0;refine xq5 (uI (AG Aa) (uI @e2 @c)) ?_;refine⟨_,trivial, .of (lR _) (Ax @e3) (AS @e3)⟩
   .have e3:EF l x cs.2=(0,cs.2):=vw0;refine xq5 (uI (AG Aa) (uI @e2 @c)) ?_;refine⟨_,trivial, .of (lR _) (Ax @e3) (AS @e3)⟩
   .have e3:EF l x cs.2=(gP l cs.2 [1,1,0],cs.2+1):=vw0;refine IB (uI (AG Aa) (uI @e2 @c)) ?_;refine uR ?_;intro K hK;refine CY rfl ((Rw l cs.2 [1,1,0] hf dM dM)) Ak Ak Ak Ak Ak ?_;refine uS ?_;refine hK _ ?_;clear hK K;refine uW ?_;refine⟨_,trivial, .of (lR _) (Ax @e3) (AS @e3)⟩
   .have e3:EF l x cs.2=(gP l cs.2 [1,0,1,0,-1],cs.2+1):=vw0;refine IB (uI (AG Aa) (uI @e2 @c)) ?_;refine uR ?_;intro K hK;refine CY rfl ((Rw l cs.2 [1,0,1,0,-1] hf dM dM)) Ak Ak Ak Ak Ak ?_;refine uS ?_;refine hK _ ?_;clear hK K;refine uW ?_;refine⟨_,trivial, .of (lR _) (Ax @e3) (AS @e3)⟩
   .have e3:EF l x cs.2=(gP l cs.2 [1,0,1,0,-1],cs.2+1):=vw0;refine IB (uI (AG Aa) (uI @e2 @c)) ?_;refine uR ?_;intro K hK;refine CY rfl ((Rw l cs.2 [1,0,1,0,-1] hf dM dM)) Ak Ak Ak Ak Ak ?_;refine uS ?_;refine hK _ ?_;clear hK K;refine uW ?_;refine⟨_,trivial, .of (lR _) (Ax @e3) (AS @e3)⟩
   have e3:EF l x cs.2=(gP l cs.2 [0,0,0,0,-1],cs.2+1):=by unfold EF;simp[c1,c2,c3,c4,c5,c6]
   refine IB (uI (AG Aa) (uI @e2 (uI @c1 (uI @c2 (uI @c3 (uI @c4 (uI @c5 @c6))))))) ?_;refine uR ?_;intro K hK;refine CY rfl ((Rw l cs.2 [0,0,0,0,-1] hf dM dM)) Ak Ak Ak Ak Ak ?_;refine uS ?_;refine hK _ ?_;clear hK K;refine uW ?_;refine⟨_,trivial, .of (lR _) (Ax @e3) (AS @e3)⟩
  intro ck2 _;refine Bg @Cy ?_;refine⟨(_,i+1),uO,uO, .of (lR _) (Ax @e1) (AS @e1)⟩
 refine At ?_;have Ar:i=y.U.length:=oM;subst Ar;have Cy:=Rf l y.U a y.U.length;refine uZ ?_;(refine Ay (MR rfl (kK @Cy) (kK @Cy) ?_ ?_);all_goals (first|refine Ap @Cy ?_|exact Aq @Cy|skip))
 .rfl
 rfl
def jP (f g:T3):Bool:=decide (g.b=f.b)&&decide (g.c=f.c)
def iE (l:List Int) (xs:List Nd) (o:List T3×Nat):List T3×Nat:=
 let k:=gN l o.2 xs.length
 let x:=xs.getD k.toNat default
 if x.ln=0 then(o.1,o.2+1)
 else
  let f:T3:=⟨gR l (o.2+1) 1 2,k,gN l (o.2+2) x.ln⟩
  (if o.1.any (jP f) then o.1 else o.1++[f],o.2+3)
def QE (l:List Int) (xs:List Nd) (a:Nat):Nat->List T3×Nat
 |0=>([],a)|i+1=>iE l xs (QE l xs a i)
def GP (s:List Int):Nat:=s.count 0
theorem b9 {s:List Int} {i:Nat} (h:i<s.length):(s.take (i+1)).count 0=(s.take i).count 0+if s.getD i 0=0 then 1 else 0:=by rw[List.take_add_one,gG h,List.count_append,gE,gG h];simp[List.count_cons,List.count_nil]
theorem ra (s:List Int) (hn:s.length<=9223372036854775807):Ag prog Ad 160 [] [IS s] [] (I (GP s)):=by
 refine Am func160 ntmps160 ?_;intro w e X hC;refine xy4 ?_;refine Aw (fun i:Nat×Nat=>⟨[(0,IS s),(3,I ((s.take i.2).count 0:Nat)),(4,I i.2)],[],i.1⟩) (fun i=>i.2<=s.length) (fun i=>s.length - i.2) (_,0) (zL _) (Af) ?_;rintro⟨ck,i⟩ hi;simp only at hi;have hc:(s.take i).count 0<=i:=Nat.le_trans List.count_le_length vv2;refine xy1 (fun h=>?_) (fun h=>?_)
 .have Aa:i<s.length:=oM;have e1:=b9 Aa;generalize (s.take i).count 0=c at*;refine Bg (Ao Aa) ?_;refine uW ?_;refine Aj _ rfl (fun e'=>?_) (fun e'=>?_)
  .rw[iP e'] at e1;refine uZ ?_;refine⟨(_,i+1),uO,uO, .of (lR _) Cb (AS @e1)⟩
  rw[iN e'] at e1;refine uZ ?_;refine⟨(_,i+1),uO,uO, .of (lR _) Cb (AS @e1)⟩
 refine At ?_;have Ar:i=s.length:=oM;subst Ar;refine xz3 ?_;try rfl
 rw[List.take_length];rfl
def AN (kd:Int):Bool:=decide (1<=kd)&&decide (kd<=6)
theorem Kd (kd:Int):Ag prog Ad 56 [] [I kd] [] (B (AN kd)):=by
 refine Am func56 ntmps56 ?_;intro w e X hC;refine uZ ?_;by_cases c1:1<=kd
 .have d1:decide (1<=kd)=true:=dT c1;refine xz9 @d1 ?_;try rfl
  simp only[go_sem,seval,AN,d1,Bool.true_and]
 have d1:decide (1<=kd)=false:=dF c1;refine xz9 @d1 ?_;try rfl
 simp only[go_sem,seval,AN,d1,Bool.false_and]
theorem Qi8 {a b:List (List Int)} (h:a.length=b.length) (h':∀j,j<a.length->a.getD j []=b.getD j []):a=b:=by refine List.ext_getElem h fun j h1 h2=>?_;have:=h' j h1;simpa[h1,h2] using this
theorem QeN (p q:Pl) (h1:p.Q.length<=1000) (h2:p.R.length<=1000) (h3:∀r∈p.Q,r.length<=9223372036854775807) (h4:∀r∈p.R,r.length<=9223372036854775807) (h5:q.Q.length<=9223372036854775807) (h6:q.R.length<=9223372036854775807):
  Ag prog Ad 71 [] [p.av,q.av] [] (B (decide (p.Q=q.Q/\p.R=q.R))):=by
 have CP:¬(p.Q=q.Q/\p.R=q.R)->B (decide (p.Q=q.Q/\p.R=q.R))=B false:=fun h=>by rw[dF h]
 refine Am func71 ntmps71 ?_;intro w e X hC;refine uZ ?_;by_cases c1:p.Q.length=q.Q.length
 .have d1:decide (¬(p.Q.length:Int)=q.Q.length)=false:=dF oM;refine xz2 @d1 ?_;refine GF (fun c2=>?_) (fun c2=>?_)
  .refine xz3 ?_;try rfl
   exact(CP fun h=>c2 (by rw[h.2])).symm
  have c2':p.R.length=q.R.length:=oM;refine xy4 ?_;refine Aw (fun i:Nat×Nat=>⟨[(2, .p 102 1 0 0 0),(3, .p 103 2 0 0 0),(5,I i.2)],[(102,some (1, .box [RS p.Q,RS p.R])),(103,some (2, .box [RS q.Q,RS q.R]))],i.1⟩) (fun i=>i.2<=p.Q.length/\∀j,j<i.2->p.Q.getD j []=q.Q.getD j []) (fun i=>p.Q.length - i.2) (_,0) ⟨zL _,fun j hj=>absurd hj (nZ _)⟩ (Af) ?_;rintro⟨ck,i⟩ ⟨hi,hj⟩;simp only at hi hj;refine xy1 (fun h=>?_) (fun h=>?_)
  .have Aa:i<p.Q.length:=oM;have OL:i<q.Q.length:=oM;refine Cv (uI (BF Aa) (BF OL)) ?_;intro K hK;refine uH ?_;refine JA Ak ((YL (p.Q.getD i []) (q.Q.getD i []) (h3 _ (by rw[gE,gG Aa];exact gM Aa)))) Ak Ak Ak ?_;refine uS ?_;by_cases c3:p.Q.getD i []=q.Q.getD i []
   .have d3:decide (p.Q.getD i []=q.Q.getD i [])=true:=dT c3;first|refine Ap @d3 ?_|exact Aq @d3
    refine hK _ ?_;clear hK K;refine xy9 ?_;refine⟨(_,i+1),⟨oM,fun j Ah=>?_⟩,uO,Af⟩;by_cases AF:j=i
    .subst AF;exact c3
    exact hj j oM
   have d3:decide (p.Q.getD i []=q.Q.getD i [])=false:=dF c3;first|refine Ap @d3 ?_|exact Aq @d3
   refine hK _ ?_;clear hK K;refine xq4 ?_;try rfl
   exact(CP fun h=>c3 (by rw[h.1])).symm
  refine At ?_;have hs:p.Q=q.Q:=Qi8 c1 fun j h=>hj j oM;clear hj hi h;refine xy4 ?_;refine Aw (fun i:Nat×Nat=>⟨[(2, .p 102 1 0 0 0),(3, .p 103 2 0 0 0),(6,I i.2)],[(102,some (1, .box [RS p.Q,RS p.R])),(103,some (2, .box [RS q.Q,RS q.R]))],i.1⟩) (fun i=>i.2<=p.R.length/\∀j,j<i.2->p.R.getD j []=q.R.getD j []) (fun i=>p.R.length - i.2) (_,0) ⟨zL _,fun j hj=>absurd hj (nZ _)⟩ (Af) ?_;rintro⟨ck,i⟩ ⟨hi,hj⟩;simp only at hi hj;refine xy1 (fun h=>?_) (fun h=>?_)
  .have Aa:i<p.R.length:=oM;have OL:i<q.R.length:=oM;refine Cv (uI (BF Aa) (BF OL)) ?_;intro K hK;refine uH ?_;refine JA Ak ((YL (p.R.getD i []) (q.R.getD i []) (h4 _ (by rw[gE,gG Aa];exact gM Aa)))) Ak Ak Ak ?_;refine uS ?_;by_cases c3:p.R.getD i []=q.R.getD i []
   .have d3:decide (p.R.getD i []=q.R.getD i [])=true:=dT c3;first|refine Ap @d3 ?_|exact Aq @d3
    refine hK _ ?_;clear hK K;refine xy9 ?_;refine⟨(_,i+1),⟨oM,fun j Ah=>?_⟩,uO,Af⟩;by_cases AF:j=i
    .subst AF;exact c3
    exact hj j oM
   have d3:decide (p.R.getD i []=q.R.getD i [])=false:=dF c3;first|refine Ap @d3 ?_|exact Aq @d3
   refine hK _ ?_;clear hK K;refine xq4 ?_;try rfl
   exact(CP fun h=>c3 (by rw[h.2])).symm
  refine At ?_;have Fp:p.R=q.R:=Qi8 c2' fun j h=>hj j oM;refine xz3 ?_;try rfl
  exact Aq (dT (show p.Q=q.Q/\p.R=q.R from⟨hs,Fp⟩))
 have d1:decide (¬(p.Q.length:Int)=q.Q.length)=true:=dT oM;refine xy8 @d1 ?_;refine xq4 ?_;try rfl
 exact(CP fun h=>c1 (by rw[h.1])).symm
theorem QeO (p q:Pl) (h1:p.Q.length<=1000) (h2:p.R.length<=1000) (h3:∀r∈p.Q,r.length<=9223372036854775807) (h4:∀r∈p.R,r.length<=9223372036854775807) (h5:q.Q.length<=9223372036854775807) (h6:q.R.length<=9223372036854775807):
  Ag prog Ad 23 [] [p.av,q.av] [] (B (decide (p.Q=q.Q/\p.R=q.R))):=by
 refine Am func23 ntmps23 ?_;intro w e X hC;refine uZ ?_;refine xx9 ((QeN p q h1 h2 h3 h4 h5 h6)) ?_;exact uP
def GG (p:Pl) (b:Int):Int×Int×Bool:=
 match (if b=0 then none else p.Q.findIdx? fun r=>decide (b∈r)) with
 |some n=>(n,((((p.Q.getD n []).findIdx? fun x=>decide (x=b)).getD 0:Nat):Int),true)|none=>match p.R.findIdx? fun r=>decide (b∈r) with
  |some n=>(n,-1,true)|none=>(0,0,false)
abbrev Z1 (r:Int×Int×Bool):AV:= .tup [.agg [I r.1,I r.2.1],B r.2.2]
theorem qG {r:List Int} {b:Int} {k:Nat} (hk:k<r.length) (h:r.getD k 0=b) (h':∀j,j<k->r.getD j 0≠b):(r.findIdx? fun x=>decide (x=b))=some k:=by rw[List.findIdx?_eq_some_iff_getElem];refine⟨hk,by simpa[hk] using h,fun j hj=>?_⟩;have Ah:j<r.length:=oM;simpa[Ah] using h' j hj
theorem TT {l:List (List Int)} {b:Int} {k:Nat} (hk:k<l.length) (h:b∈l.getD k []) (h':∀j,j<k->b∉l.getD j []):(l.findIdx? fun x=>decide (b∈x))=some k:=by rw[List.findIdx?_eq_some_iff_getElem];refine⟨hk,by simpa[hk] using h,fun j hj=>?_⟩;have Ah:j<l.length:=oM;simpa[Ah] using h' j hj
theorem TS {l:List (List Int)} {b:Int} (h':∀j,j<l.length->b∉l.getD j []):(l.findIdx? fun x=>decide (b∈x))=none:=by rw[List.findIdx?_eq_none_iff];intro x hx;obtain⟨j,hj,rfl⟩:=List.getElem_of_mem hx;simpa[hj] using h' j hj
theorem Qai {r:List Int} {b:Int} (h':∀j,j<r.length->r.getD j 0≠b):b∉r:=by intro hx;obtain⟨j,hj,rfl⟩:=List.getElem_of_mem hx;exact h' j hj (by simp[hj])
theorem QgY (p:Pl) (b:Int) (h1:p.Q.length<=1000) (h2:p.R.length<=1000) (h3:∀i,i<p.Q.length->(p.Q.getD i []).length<=1000) (h4:∀i,i<p.R.length->(p.R.getD i []).length<=9223372036854775807):
  Ag prog Ad 95 [] [p.av,I b] [] (Z1 (GG p b)):=by
 refine Am func95 ntmps95 ?_;intro w e X hC;refine uA ?_;refine A5 ?_;refine CE (fun q:Nat=>⟨[(1,I b),(2, .p 102 1 0 0 0),(4, .p 104 2 0 0 0)],(102,some (1, .box [RS p.Q,RS p.R]))::(104,some (2, .box [I 0,I 0]))::[],q⟩) (fun _=>GG p b=match p.R.findIdx? fun r=>decide (b∈r) with|some n=>(n,-1,true)|none=>(0,0,false)) ?_ ?_
 rotate_left
 .intro ck ew;refine xy4 ?_;refine Aw (fun i:Nat×Nat=>⟨[(1,I b),(2, .p 102 1 0 0 0),(4, .p 104 2 0 0 0),(8,I i.2)],(102,some (1, .box [RS p.Q,RS p.R]))::(104,some (2, .box [I 0,I 0]))::[],i.1⟩) (fun i=>i.2<=p.R.length/\∀j,j<i.2->b∉p.R.getD j []) (fun i=>p.R.length - i.2) (_,0) ⟨zL _,fun j hj=>absurd hj (nZ _)⟩ (Af) ?_;rintro⟨ck,i⟩ ⟨hi,hj⟩;simp only at hi hj;refine xy1 (fun h=>?_) (fun h=>?_)
  .have Aa:i<p.R.length:=oM;have Ej:=h4 i Aa;generalize e1:p.R.getD i []=r at*;by_cases c3:b∈r
   .have d3:decide (b∈r)=true:=dT c3;refine Av (uI (BF Aa) @e1) ?_;intro K hK;refine xy0 ((NP r b Ej)) ?_;simp only[d3];refine hK _ ?_;clear hK K;refine xy3 ?_;rw[TT Aa (by rw[e1];exact c3) hj] at ew;refine Ay ?_;rw[show f95.results.toList=[.cell 4 77, .tmp 5] from rfl];first|refine Bn ?_|exact Bm
    simp only[ew]
   have d3:decide (b∈r)=false:=dF c3;refine Av (uI (BF Aa) @e1) ?_;intro K hK;refine xy0 ((NP r b Ej)) ?_;simp only[d3];refine hK _ ?_;clear hK K;refine xy9 ?_;refine⟨(_,i+1),⟨uO,fun j Ah=>?_⟩,uO,Af⟩;by_cases AF:j=i
   .subst AF;rw[e1];exact c3
   exact hj j vv6
  refine At ?_;rw[TS fun j h=>hj j oM] at ew;refine xz4 ?_;rw[show f95.results.toList=[.cell 4 77, .tmp 5] from rfl];first|refine Bn ?_|exact Bm
  simp only[ew]
 refine xy4 ?_;refine Aw (fun i:Nat×Nat=>⟨[(1,I b),(2, .p 102 1 0 0 0),(4, .p 104 2 0 0 0),(6,I i.2)],(102,some (1, .box [RS p.Q,RS p.R]))::(104,some (2, .box [I 0,I 0]))::[],i.1⟩) (fun i=>i.2<=p.Q.length/\∀j,j<i.2->b∉p.Q.getD j []) (fun i=>p.Q.length - i.2) (_,0) ⟨zL _,fun j hj=>absurd hj (nZ _)⟩ (Af) ?_;rintro⟨ck,i⟩ ⟨hi,hj⟩;simp only at hi hj;by_cases c0:i<p.Q.length/\¬b=0
 .have d1:=uDt ((i:Int)<p.Q.length);have d2:decide (¬b=0)=true:=dT c0.2;have Aa:=c0.1;have Ej:=h3 i Aa;generalize e1:p.Q.getD i []=r at*;refine xy8 (uI @d1 @d2) ?_;refine xy3 ?_;refine uW ?_;refine Aw (fun k:Nat×Nat=>⟨[(1,I b),(2, .p 102 1 0 0 0),(4, .p 104 2 0 0 0),(6,I i),(7,I k.2)],(102,some (1, .box [RS p.Q,RS p.R]))::(104,some (2, .box [I 0,I 0]))::[],k.1⟩) (fun k=>k.2<=r.length/\∀j,j<k.2->r.getD j 0≠b) (fun k=>r.length - k.2) (_,0) ⟨zL _,fun j hj=>absurd hj (nZ _)⟩ (Af) ?_;rintro⟨ck,k⟩ ⟨hk,Db⟩;simp only at hk Db;refine Bg (uI (BF Aa) @e1) ?_;refine GF (fun h=>?_) (fun h=>?_)
  .have A3:k<r.length:=oM;refine Bg (uI (BF Aa) (uI @e1 (Ao A3))) ?_;refine GF (fun c3=>?_) (fun c3=>?_)
   .refine uZ ?_;have e2:GG p b=((i:Int),(k:Int),true):=by
     have hm:b∈p.Q.getD i []:=by rw[e1,<-c3];exact P7 A3
     unfold GG;rw[iN c0.2,TT Aa hm hj];simp only[e1,qG A3 c3 Db];rfl
    refine Ay ?_;rw[show f95.results.toList=[.cell 4 77, .tmp 5] from rfl];first|refine Bn ?_|exact Bm
    simp only[e2]
   refine uZ ?_;refine⟨(_,k+1),⟨uO,fun j Ah=>?_⟩,uO,Af⟩;by_cases R7:j=k
   .subst R7;exact c3
   exact Db j vv6
  refine xq6 ?_;refine⟨(_,i+1),⟨uO,fun j Ah=>?_⟩,uO,Af⟩;by_cases AF:j=i
  .subst AF;rw[e1];exact Qai fun j h=>Db j oM
  exact hj j vv6
 have ew:GG p b=match p.R.findIdx? fun r=>decide (b∈r) with|some n=>(n,-1,true)|none=>(0,0,false):=by
  by_cases hb:b=0
  .unfold GG;rw[iP hb]
  have:(p.Q.findIdx? fun r=>decide (b∈r))=none:=TS fun j h=>hj j oM;unfold GG;rw[iN hb,this]
 by_cases c1:i<p.Q.length
 .have d1:=uDt ((i:Int)<p.Q.length);have d2:decide (¬b=0)=false:=dF (fun h=>c0 ⟨c1,h⟩);refine xy8 (uI @d1 @d2) ?_;refine xk0 ?_;refine⟨_,ew,Af⟩
 have d1:=uDf ((i:Int)<p.Q.length);refine xy8 @d1 ?_;refine xk0 ?_;refine⟨_,ew,Af⟩
theorem Jp {α:Type} {l:List α} {i:Nat} {d:α} (h:i<l.length):l.take (i+1)=l.take i++[l.getD i d]:=by rw[List.take_add_one,gG h,gE,gG h];rfl
abbrev jg (p:Pl):Hp:=[(100,some (1, .own 22 1 (BI 3 p.Q))),(101,some (1, .own 22 1 (BI 3 p.R)))]
abbrev jh (p:Pl):AV:= .agg [.l 100 1 0 p.Q.length, .l 101 1 0 p.R.length]
theorem bX (p:Pl) (h1:0<p.Q.length/\p.Q.length<=1000) (h2:0<p.R.length/\p.R.length<=1000) (h3:∀i,i<p.Q.length->(p.Q.getD i []).length<=1000) (h4:∀i,i<p.R.length->(p.R.getD i []).length<=1000):
  Ag prog Ad 55 [] [p.av] (jg p) (jh p):=by
 refine Am func55 ntmps55 ?_;intro w e X hC;refine xy4 ?_;refine Aw (fun i:Nat×Nat×Nat=>⟨[(1, .p 101 1 0 0 0),(2, .p 102 2 0 0 0),(3, .p 103 3 0 0 0),(4,I i.2.1)],(103,some (3, .box [F8 i.2.1 (.l 123 i.2.2 0 i.2.1), .sl [] true]))::(123,F9 i.2.1 (i.2.2, .own 22 1 (BI 3 (p.Q.take i.2.1))))::(101,some (1, .box [RS p.Q,RS p.R]))::(102,some (2, .box [.sl [] true, .sl [] true]))::[],i.1⟩) (fun i=>i.2.1<=p.Q.length) (fun i=>p.Q.length - i.2.1) (_,0,0) (zL _) (Af) ?_;rintro⟨ck,i,g⟩ hi;simp only at hi;refine xy1 (fun h=>?_) (fun h=>?_)
 .have Aa:i<p.Q.length:=oM;have e1:=Jp (d:=[]) Aa;have Ej:=h3 i Aa;have Dd:(p.Q.take i).length=i:=vv2;generalize e2:p.Q.getD i []=r at*;by_cases CH:i=0
  .subst CH;simp only[Ji,Jj];refine xq2 (uI (BF Aa) (uI @e2 @UT)) ?_;refine uZ ?_;refine⟨(_,0+1,ck+15),uO,uO, .of (lR _) (Ax (uI @e1 (uI @FQ @FR))) A4⟩
  simp only[Hd CH,He CH];refine xq2 (uI (BF Aa) (uI @e2 @Dd)) ?_;refine uZ ?_;refine⟨(_,i+1,g),uO,uO, .of (lR _) (Ax (uI @e1 (uI @FQ @FR))) A4⟩
 refine At ?_;have Ar:i=p.Q.length:=oM;subst Ar;simp only[Hd (show p.Q.length≠0 by omega),He (show p.Q.length≠0 by omega),List.take_length];refine xy4 ?_;refine Aw (fun i:Nat×Nat×Nat=>⟨[(1, .p 101 1 0 0 0),(2, .p 102 2 0 0 0),(3, .p 103 3 0 0 0),(5,I i.2.1)],(103,some (3, .box [.l 123 g 0 p.Q.length,F8 i.2.1 (.l 142 i.2.2 0 i.2.1)]))::(142,F9 i.2.1 (i.2.2, .own 22 1 (BI 3 (p.R.take i.2.1))))::(123,some (g, .own 22 1 (BI 3 p.Q)))::(101,some (1, .box [RS p.Q,RS p.R]))::(102,some (2, .box [.sl [] true, .sl [] true]))::[],i.1⟩) (fun i=>i.2.1<=p.R.length) (fun i=>p.R.length - i.2.1) (_,0,0) (zL _) (Af) ?_;rintro⟨ck,i,g2⟩ hi;simp only at hi;refine xy1 (fun h=>?_) (fun h=>?_)
 .have Aa:i<p.R.length:=oM;have e1:=Jp (d:=[]) Aa;have Ej:=h4 i Aa;have Dd:(p.R.take i).length=i:=vv2;generalize e2:p.R.getD i []=r at*;by_cases CH:i=0
  .subst CH;simp only[Ji,Jj];refine xq2 (uI (BF Aa) (uI @e2 @UT)) ?_;refine uZ ?_;refine⟨(_,0+1,ck+15),uO,uO, .of (lR _) (Ax (uI @e1 (uI @FQ @FR))) A4⟩
  simp only[Hd CH,He CH];refine xq2 (uI (BF Aa) (uI @e2 @Dd)) ?_;refine uZ ?_;refine⟨(_,i+1,g2),uO,uO, .of (lR _) (Ax (uI @e1 (uI @FQ @FR))) A4⟩
 refine At ?_;have Ar:i=p.R.length:=oM;subst Ar;simp only[Hd (show p.R.length≠0 by omega),He (show p.R.length≠0 by omega),List.take_length];refine xz4 ?_;rw[show f55.results.toList=[.cell 2 36] from rfl];(refine DB [(100,1,123,g),(101,1,142,g2)] D4 sM sM sM Bp Bp Bp ?_ ?_;all_goals (first|refine Fb ?_|exact Fc|skip))
theorem Oj (fs:List Int) (k:Nat) (hn:fs.length<=1000):Ag prog Ad 110 [] [IS fs,I k] [] (I (fs.getD k 0)):=by
 refine Am func110 ntmps110 ?_;intro w e X hC;refine xy1 (fun h=>?_) (fun h=>?_)
 .have Aa:k<fs.length:=oM;refine Bg (Ao Aa) ?_;exact uP
 refine xz3 ?_;try rfl
 rw[gE,List.getElem?_eq_none oM];rfl
def Hk (s fs:List Int) (k:Nat):Nat:=
 if fs.getD k 0=1\/s.getD (k+1) 0≠0 then k
 else if fs.getD k 0=2/\k+2<s.length/\s.getD (k+2) 0=0 then k+2 else k+1
theorem Qfm (s fs:List Int) (k:Nat) (hn:fs.length<=1000) (hs:s.length<=1000) (hk:k+1<s.length):Ag prog Ad 109 [] [IS s,IS fs,I k] [] (I (Hk s fs k)):=by
 have e1:(k:Int)+1=((k+1:Nat):Int):=oM;have e2:(k:Int)+2=((k+2:Nat):Int):=oM;refine Am func109 ntmps109 ?_;intro w e X hC;refine uZ ?_;by_cases c1:fs.getD k 0=1
 .have d1:decide (fs.getD k 0=1)=true:=dT c1;refine uR ?_;intro K hK;refine xz0 ((Oj fs k hn)) ?_;first|refine Ap @d1 ?_|exact Aq @d1
  refine hK _ ?_;clear hK K;refine xq4 ?_;try rfl
  rw[Hk,iP (.inl c1)];rfl
 have d1:decide (fs.getD k 0=1)=false:=dF c1;refine uR ?_;intro K hK;refine xz0 ((Oj fs k hn)) ?_;first|refine Ap (uI @d1 (uI @e1 (Ao hk))) ?_|exact Aq (uI @d1 (uI @e1 (Ao hk)))
 refine uH ?_;refine hK _ ?_;clear hK K;refine GF (fun c2=>?_) (fun c2=>?_)
 .refine xz3 ?_;try rfl
  rw[Hk,iP (.inr c2)];rfl
 have c2':¬(fs.getD k 0=1\/s.getD (k+1) 0≠0):=fun h=>h.elim c1 c2;by_cases c3:fs.getD k 0=2
 .have d3:decide (fs.getD k 0=2)=true:=dT c3;by_cases c4:k+2<s.length
  .have d4:=uDt (((k+2:Nat):Int)<s.length);refine uR ?_;intro K hK;refine xz0 ((Oj fs k hn)) ?_;first|refine Ap (uI @d3 (uI @e2 (uI @d4 (Ao c4)))) ?_|exact Aq (uI @d3 (uI @e2 (uI @d4 (Ao c4))))
   refine uH ?_;refine hK _ ?_;clear hK K;refine GF (fun c5=>?_) (fun c5=>?_)
   .refine xz3 ?_;try rfl
    rw[Hk,iN c2',iP ⟨c3,c4,c5⟩];rfl
   refine xz3 ?_;try rfl
   rw[Hk,iN c2',iN (fun h=>c5 h.2.2)];rfl
  have d4:=uDf (((k+2:Nat):Int)<s.length);refine uR ?_;intro K hK;refine xz0 ((Oj fs k hn)) ?_;first|refine Ap (uI @d3 (uI @e2 @d4)) ?_|exact Aq (uI @d3 (uI @e2 @d4))
  refine uH ?_;refine hK _ ?_;clear hK K;refine xy9 ?_;refine uJ ?_;try rfl
  rw[Hk,iN c2',iN (fun h=>c4 h.2.1)];rfl
 have d3:decide (fs.getD k 0=2)=false:=dF c3;refine uR ?_;intro K hK;refine xz0 ((Oj fs k hn)) ?_;first|refine Ap @d3 ?_|exact Aq @d3
 refine hK _ ?_;clear hK K;refine xy9 ?_;refine uJ ?_;try rfl
 rw[Hk,iN c2',iN (fun h=>c3 h.1)];rfl
def In (s fs:List Int) (op:Bool) (k:Nat) (o:List Int×Int):List Int×Int:=
 if s.getD k 0=0 then o
 else if k+1<s.length then(o.1.set (Hk s fs k) (s.getD k 0),o.2)
 else if op=true/\fs.getD k 0≠1 then(o.1,s.getD k 0)
 else(o.1.set k (s.getD k 0),o.2)
def Hn (s fs:List Int) (op:Bool):Nat->List Int×Int
 |0=>(List.replicate s.length 0,0)|k+1=>In s fs op k (Hn s fs op k)
theorem aD (s fs:List Int) (op:Bool):∀k,(Hn s fs op k).1.length=s.length
 |0=>by simp[Hn]|k+1=>by
  have:=aD s fs op k;rw[Hn,In];split
  .exact this
  split
  .simpa using this
  split
  .exact this
  simpa using this
def Q4 (s fs:List Int) (op:Bool):List Int×Int:=Hn s fs op s.length
theorem Qgb {s fs:List Int} {k:Nat} (h:k+1<s.length):Hk s fs k<s.length:=by
 unfold Hk;split
 .omega
 split<;>omega
theorem nf (s fs:List Int) (op:Bool) (hn:fs.length<=1000) (hs:s.length<=1000):
  Ag prog Ad 57 [] [IS s,IS fs,B op] [(100,some (1, .own 3 1 (As (Q4 s fs op).1)))] (.tup [.l 100 1 0 s.length,I (Q4 s fs op).2]):=by
 refine Am func57 ntmps57 ?_;intro w e X hC;refine xy4 ?_;refine Aw (fun i:Nat×Nat×Nat=>⟨[(0,IS s),(1,IS fs),(2,B op),(8, .l 113 i.2.2 0 s.length),(9,I (Hn s fs op i.2.1).2),(10,I i.2.1)],(113,some (i.2.2, .own 3 1 (As (Hn s fs op i.2.1).1)))::[],i.1⟩) (fun i=>i.2.1<=s.length) (fun i=>s.length - i.2.1) (_,0,_) (zL _) (Af) ?_;rintro⟨ck,i,g⟩ hi;simp only at hi;have Gq:=aD s fs op i;have e1:Hn s fs op (i+1)=In s fs op i (Hn s fs op i):=rfl;generalize e9:Hn s fs op i=o at*;refine xy1 (fun h=>?_) (fun h=>?_)
 .have Aa:i<s.length:=oM;by_cases c1:s.getD i 0=0
  .have e2:In s fs op i o=o:=iP c1;have d1:decide (s.getD i 0=0)=true:=dT c1;refine xq5 (uI (Ao Aa) @d1) ?_;refine⟨(_,i+1,g),uO,uO, .of (lR _) (Ax (uI @e1 @e2)) (AS (uI @e1 @e2))⟩
  have d1:decide (s.getD i 0=0)=false:=dF c1;by_cases c2:i+1<s.length
  .have e2:In s fs op i o=(o.1.set (Hk s fs i) (s.getD i 0),o.2):=by rw[In,iN c1,iP c2]
   have d2:=uDt ((i:Int)<(s.length:Int) - 1);have ht:=Qgb (fs:=fs) c2;refine IB (uI (Ao Aa) (uI @d1 @d2)) ?_;refine uD ?_;intro K hK;refine xz0 ((Qfm s fs i hn hs c2)) ?_;first|refine Ap (uI (Ao Aa) @Gq) ?_|exact Aq (uI (Ao Aa) @Gq)
   refine uH ?_;refine hK _ ?_;clear hK K;refine J8 ?_;refine uW ?_;refine⟨(_,i+1,g),uO,uO, .of (lR _) (Ax (uI @e1 @e2)) (AS (uI @e1 @e2))⟩
  have d2:=uDf ((i:Int)<(s.length:Int) - 1);cases op with
  |false=>
   have e2:In s fs false i o=(o.1.set i (s.getD i 0),o.2):=by rw[In,iN c1,iN c2,iN sM]
   refine xq5 (uI (Ao Aa) (uI @d1 (uI @d2 @Gq))) ?_;refine⟨(_,i+1,g),uO,uO, .of (lR _) (Ax (uI @e1 @e2)) (AS (uI @e1 @e2))⟩
  |true=>
   by_cases c3:fs.getD i 0=1
   .have e2:In s fs true i o=(o.1.set i (s.getD i 0),o.2):=by rw[In,iN c1,iN c2,iN (fun h=>h.2 c3)]
    have d3:decide (¬fs.getD i 0=1)=false:=dF (fun h=>h c3);refine IB (uI (Ao Aa) (uI @d1 @d2)) ?_;refine uR ?_;intro K hK;refine xz0 ((Oj fs i hn)) ?_;first|refine Ap @d3 ?_|exact Aq @d3
    refine hK _ ?_;clear hK K;refine xq5 (uI (Ao Aa) @Gq) ?_;refine⟨(_,i+1,g),uO,uO, .of (lR _) (Ax (uI @e1 @e2)) (AS (uI @e1 @e2))⟩
   have e2:In s fs true i o=(o.1,s.getD i 0):=by rw[In,iN c1,iN c2,iP ⟨rfl,c3⟩]
   have d3:decide (¬fs.getD i 0=1)=true:=dT c3;refine IB (uI (Ao Aa) (uI @d1 @d2)) ?_;refine uR ?_;intro K hK;refine xz0 ((Oj fs i hn)) ?_;first|refine Ap @d3 ?_|exact Aq @d3
   refine hK _ ?_;clear hK K;refine xq5 (uI (Ao Aa) @Gq) ?_;refine⟨(_,i+1,g),uO,uO, .of (lR _) (Ax (uI @e1 @e2)) (AS (uI @e1 @e2))⟩
 refine At ?_;have Ar:i=s.length:=oM;subst Ar;have e2:Q4 s fs op=o:=e9;refine uZ ?_;rw[e2];refine Ay ?_;rw[show Tryz.f57.results.toList=[.tmp 6, .tmp 7] from rfl];(refine DB [(100,1,113,g)] D4 sM sM sM Bp Bp Bp ?_ ?_;all_goals (first|refine Fb ?_|exact Fc|skip))
def M3 (fs:List T3) (n:Int) (i:Nat) (o:List Int):List Int:=if(fs.getD i default).b=n then o.set (fs.getD i default).c.toNat (fs.getD i default).a else o
def Fg (fs:List T3) (n:Int) (ln:Nat):Nat->List Int
 |0=>List.replicate ln 0|i+1=>M3 fs n i (Fg fs n ln i)
theorem Q5 (fs:List T3) (n:Int) (ln:Nat):∀i,(Fg fs n ln i).length=ln
 |0=>by simp[Fg]|i+1=>by rw[Fg,M3];split<;>simp[Q5 fs n ln i]
def DW (fs:List T3) (n:Int) (ln:Nat):List Int:=Fg fs n ln fs.length
theorem aT (y:Ly) (fs:List T3) (n:Nat) (hn:n<y.U.length) (hy:y.U.length<=1000) (hf:fs.length<=1000) (hl:0<=(y.U.getD n default).ln/\(y.U.getD n default).ln<=1000)
  (hv:∀i,i<fs.length->(fs.getD i default).b=n->0<=(fs.getD i default).c/\(fs.getD i default).c<(y.U.getD n default).ln):
  Ag prog Ad 58 [] [y.av, .sl (Ai fs) false,I n] [] (IS (DW fs n (y.U.getD n default).ln.toNat)):=by
 generalize e2:y.U.getD n default=x at*;refine Am func58 ntmps58 ?_;intro w e X hC;refine Bg (uI (AG hn) @e2) ?_;refine uW ?_;refine Aw (fun i:Nat×Nat×Nat=>⟨[(1, .sl (Ai fs) false),(2,I n),(3, .p 103 1 0 0 0),(7, .l 115 i.2.2 0 x.ln.toNat),(8,I i.2.1)],(115,some (i.2.2, .own 3 1 (As (Fg fs n x.ln.toNat i.2.1))))::(103,some (1, .box [.sl (AA y.U) false, .sl (Ai y.D) false]))::[],i.1⟩) (fun i=>i.2.1<=fs.length) (fun i=>fs.length - i.2.1) (_,0,_) (zL _) (Af) ?_;rintro⟨ck,i,g⟩ hi;simp only at hi;have Gq:=Q5 fs n x.ln.toNat i;have e1:Fg fs n x.ln.toNat (i+1)=M3 fs n i (Fg fs n x.ln.toNat i):=rfl;generalize e9:Fg fs n x.ln.toNat i=o at*;refine xy1 (fun h=>?_) (fun h=>?_)
 .have Aa:i<fs.length:=oM;have w8:=hv i Aa;rw[M3] at e1;generalize e3:fs.getD i default=f at*;refine Bg (uI (By Aa) @e3) ?_;refine GF (fun c1=>?_) (fun c1=>?_)
  .rw[iP c1] at e1;have Gy:=w8 c1;have KO:f.c.toNat<x.ln.toNat:=oM;refine xq2 (uI (By Aa) (uI @e3 @Gq)) ?_;refine uZ ?_;refine⟨(_,i+1,g),uO,uO, .of (lR _) (Ax @e1) A4⟩
  rw[iN c1] at e1;refine uZ ?_;refine⟨(_,i+1,g),uO,uO, .of (lR _) (Ax @e1) A4⟩
 refine At ?_;have Ar:i=fs.length:=oM;subst Ar;refine xz4 ?_;refine QO (by simp only[go_sem,seval,Gq]<;>trivial) ?_;simp only[go_sem,seval,-Int.reduceNatCast',<-e9];rfl
theorem p8 (l:List Int) (x:Int) (hn:l.length<=1000):
  Ag prog Ad 59 [] [IS l,I x] [(100,some (1, .own 3 1 (As (Ae l x))))] (.l 100 1 0 (Ae l x).length):=by
 refine Am func59 ntmps59 ?_;intro w e X hC;refine xy4 ?_;refine Aw (fun i:Nat×Nat=>⟨[(0,IS l),(1,I x),(5, .l 105 2 0 (Ae (l.take i.2) x).length),(6,I i.2)],(105,some (2, .own 3 1 (As (Ae (l.take i.2) x))))::[],i.1⟩) (fun i=>i.2<=l.length) (fun i=>l.length - i.2) (_,0) (zL _) (Af) ?_;rintro⟨ck,i⟩ hi;simp only at hi;refine xy1 (fun h=>?_) (fun h=>?_)
 .have Aa:i<l.length:=oM;have e1:=jt (x:=x) Aa;have Ej:(Ae (l.take i) x).length<=l.length:=Nat.le_trans (List.length_filter_le _ _) vv2;refine Bg (Ao Aa) ?_;refine uW ?_;refine Aj _ rfl (fun e'=>?_) (fun e'=>?_)
  .rw[iP e'] at e1;refine Bg (Ao Aa) ?_;refine⟨(_,i+1),uO,uO, .of (lR _) (Ax @e1) (AS @e1)⟩
  rw[iN e',List.append_nil] at e1;refine uZ ?_;refine⟨(_,i+1),uO,uO, .of (lR _) (Ax @e1) (AS @e1)⟩
 refine At ?_;have Ar:i=l.length:=oM;subst Ar;rw[List.take_length];refine xz4 ?_;rw[show f59.results.toList=[.tmp 4] from rfl];(refine DB [(100,1,105,2)] D4 sM sM sM Bp Bp Bp ?_ ?_;all_goals (first|refine Fb ?_|exact Fc|skip))
def DA (l:List Int) (x:Int):List Int:=l.takeWhile (fun y=>decide (y<x))++[x]++l.dropWhile (fun y=>decide (y<x))
theorem Zj:∀{l:List Int} {x:Int} {k:Nat},k<=l.length->(∀j,j<k->l.getD j 0<x)->(k=l.length\/¬l.getD k 0<x)->DA l x=l.take k++[x]++l.drop k
 |[],x,k,h,_,_=>by have:k=0:=vy0;subst this;simp[DA]|y::l,x,0,_,_,h=>by
  have:¬y<x:=by rcases h with h|h<;>simpa using h
  simp[DA,this]
 |y::l,x,k+1,h,h1,h2=>by
  have hy:y<x:=by simpa using h1 0 oM
  have ih:=Zj (l:=l) (x:=x) (k:=k) vy0 (fun j hj=>by simpa using h1 (j+1) oM) vz7;simp only[DA] at ih;simp only[DA,List.takeWhile_cons,List.dropWhile_cons,hy,decide_true,if_true,List.take_succ_cons,List.drop_succ_cons,List.cons_append];rw[ih]
theorem jl (l:List Int) (x:Int):(DA l x).length=l.length+1:=by
 have:(l.takeWhile (fun y=>decide (y<x))++l.dropWhile (fun y=>decide (y<x))).length=l.length:=by rw[List.takeWhile_append_dropWhile]
 rw[aL] at this;simp[DA];omega
theorem QbX (l:List Int) (x:Int) (hn:l.length<=1000):
  Ag prog Ad 60 [] [IS l,I x] [(100,some (1, .own 3 1 (As (DA l x))))] (.l 100 1 0 (DA l x).length):=by
 refine Am func60 ntmps60 ?_;intro w e X hC;iterate 2 refine uA ?_
 refine A5 ?_;refine CE (fun q:Nat×Nat=>⟨[(0,IS l),(1,I x),(5,I q.2)],[],q.1⟩) (fun q=>q.2<=l.length/\DA l x=l.take q.2++[x]++l.drop q.2) ?_ ?_
 rotate_left
 .rintro⟨ck,i⟩ ⟨hi,e1⟩;simp only at hi e1;have Dd:(l.take i).length=i:=vv2;have I4:(l.drop i).length=l.length - i:=sM;have EK:=jl l x;rw[e1] at EK ⊢;simp only[aL,List.length_singleton,Dd,I4];refine Bg (uI @O5 (uI @gZ (uI @Dd @I4))) ?_;refine Ay ?_;rw[show f60.results.toList=[.tmp 4] from rfl];(refine DB [(100,1,121,ck)] D4 sM sM sM Bp Bp Bp ?_ ?_;all_goals (first|refine Fb ?_|exact Fc|skip));simp[As]
 refine uW ?_;refine Aw (fun i:Nat×Nat=>⟨[(0,IS l),(1,I x),(5,I i.2)],[],i.1⟩) (fun i=>i.2<=l.length/\∀j,j<i.2->l.getD j 0<x) (fun i=>l.length - i.2) (_,0) ⟨zL _,fun j hj=>absurd hj (nZ _)⟩ (Af) ?_;rintro⟨ck,i⟩ ⟨hi,hj⟩;simp only at hi hj;by_cases c1:i<l.length
 .have d1:=uDt ((i:Int)<l.length);refine xz2 (uI @d1 (Ao c1)) ?_;refine GF (fun c2=>?_) (fun c2=>?_)
  .refine uZ ?_;refine⟨(_,i+1),⟨uO,fun j Ah=>?_⟩,uO,Af⟩;by_cases AF:j=i
   .subst AF;exact c2
   exact hj j vv6
  refine At ?_;refine uW ?_;refine⟨(_,i),⟨hi,Zj hi hj (.inr c2)⟩,Af⟩
 have d1:=uDf ((i:Int)<l.length);refine xy8 @d1 ?_;refine xk0 ?_;refine uW ?_;refine⟨(_,i),⟨hi,Zj hi hj (.inl oM)⟩,Af⟩
def CM (x:Nd) (c:Int):Bool:=
 if x.kd=7 then decide (0<=c)&&decide (c<=40)
 else if AN x.kd=false then decide (c=0)
 else if c=-1 then decide (¬x.kd=5)
 else decide (0<=c)&&decide (c<x.ex.length)
theorem bQ (x:Nd) (c:Int) (hx:x.ex.length<=1000):Ag prog Ad 127 [] [x.av,I c] [] (B (CM x c)):=by
 refine Am func127 ntmps127 ?_;intro w e X hC;refine uA ?_;by_cases c1:x.kd=7
 .have d1:decide (x.kd=7)=true:=dT c1;have e1:CM x c=(decide (0<=c)&&decide (c<=40)):=iP c1;by_cases c2:0<=c
  .have d2:decide (0<=c)=true:=dT c2;refine xq3 (uI @d1 @d2) ?_;try rfl
   exact Aq (uI @e1 (uI @d2 @Bool.true_and))
  have d2:decide (0<=c)=false:=dF c2;refine xq3 (uI @d1 @d2) ?_;try rfl
  exact Aq (uI @e1 (uI @d2 @Bool.false_and))
 have d1:decide (x.kd=7)=false:=dF c1;refine IB @d1 ?_;refine uR ?_;intro K hK;refine xz0 ((Kd x.kd)) ?_;cases c2:AN x.kd with
 |false=>
  have e1:CM x c=decide (c=0):=by rw[CM,iN c1,iP c2]
  first|refine uS ?_|exact uX
  refine hK _ ?_;clear hK K;refine J8 ?_;refine uJ ?_;try rfl
  exact Aq @e1
 |true=>
  first|refine uS ?_|exact uX
  refine hK _ ?_;clear hK K;by_cases c3:c=-1
  .have d3:decide (c=-1)=true:=dT c3;have e1:CM x c=decide (¬x.kd=5):=by rw[CM,iN c1,iN (by simp[c2]),iP c3]
   refine xq3 @d3 ?_;try rfl
   exact Aq @e1
  have d3:decide (c=-1)=false:=dF c3;have e1:CM x c=(decide (0<=c)&&decide (c<x.ex.length)):=by rw[CM,iN c1,iN (by simp[c2]),iN c3]
  by_cases c4:0<=c
  .have d4:decide (0<=c)=true:=dT c4;refine xq3 (uI @d3 @d4) ?_;try rfl
   exact Aq (uI @e1 (uI @d4 @Bool.true_and))
  have d4:decide (0<=c)=false:=dF c4;refine xq3 (uI @d3 @d4) ?_;try rfl
  exact Aq (uI @e1 (uI @d4 @Bool.false_and))
def Tf (x:Nd) (c:Int):Int:=if x.kd=7 then 0 else c
theorem QgW (y:Ly) (cs:List Int) (n:Nat) (hn:n<y.U.length) (hc:n<cs.length) (hy:y.U.length<=1000) (Dt:cs.length<=1000):
  Ag prog Ad 108 [] [y.av,IS cs,I n] [] (I (Tf (y.U.getD n default) (cs.getD n 0))):=by
 refine Am func108 ntmps108 ?_;intro w e X hC;refine Bg (AG hn) ?_;refine GF (fun c1=>?_) (fun c1=>?_)
 .refine xz3 ?_;try rfl
  rw[Tf,iP c1];rfl
 refine xz9 (Ao hc) ?_;try rfl
 rw[Tf,iN c1];rfl
structure N3 (xs:List Nd) (fs:List T3):Prop where
 len:fs.length<=1000
 ok:∀i,i<fs.length->∀n,n<xs.length->(fs.getD i default).b=n->0<=(fs.getD i default).c/\(fs.getD i default).c<(xs.getD n default).ln
structure FB (xs:List Nd) (p:Pl):Prop where
 xl:xs.length<=1000
 sl:p.Q.length=xs.length
 bl:p.R.length=xs.length
 row:∀n,n<xs.length->(p.Q.getD n []).length=(xs.getD n default).ln.toNat
 bin:∀n,n<xs.length->(p.R.getD n []).length<=500
 ln:∀n,n<xs.length->0<=(xs.getD n default).ln/\(xs.getD n default).ln<=500
 st:∀n,n<xs.length->AN (xs.getD n default).kd=true->1<=(xs.getD n default).ln
 ex:∀n,n<xs.length->(xs.getD n default).ex.length<=500
def KQ (x:Nd) (sl bin:List Int) (c:Int) (fs:List T3) (n:Nat):Int:=
 if x.kd=7 then(if c∈bin then c else 0)
 else if AN x.kd=false\/c=-1\/(DW fs n x.ln.toNat).getD (x.ln.toNat - 1) 0=1 then 0
 else sl.getD (x.ln.toNat - 1) 0
theorem aR (fs:List T3) (n:Int) (ln:Nat):(DW fs n ln).length=ln:=Q5 fs n ln _
theorem im (y:Ly) (p:Pl) (cs:List Int) (fs:List T3) (n:Nat) (hp:FB y.U p) (hf:N3 y.U fs) (hn:n<y.U.length) (hc:cs.length=y.U.length):
  Ag prog Ad 107 [] [y.av,p.av,IS cs, .sl (Ai fs) false,I n] [] (I (KQ (y.U.getD n default) (p.Q.getD n []) (p.R.getD n []) (cs.getD n 0) fs n)):=by
 have C4:=hp.xl;have Ms:n<cs.length:=oM;have Dm:n<p.Q.length:=vk4;have Ut:n<p.R.length:=by rw[hp.bl];exact hn
 have Al:=hp.bin n hn;have Ej:=hp.row n hn;have AK:=hp.ln n hn;have AM:=hp.st n hn;have Dv:=hf.len;have Mk:=aT y fs n hn C4 hf.len oM (fun i hi hb=>hf.ok i hi n hn hb);have Gq:=aR fs n (y.U.getD n default).ln.toNat;generalize e1:y.U.getD n default=x at*;generalize e2:p.Q.getD n []=sl at*;generalize e3:p.R.getD n []=bin at*;generalize e4:cs.getD n 0=c at*;refine Am func107 ntmps107 ?_;intro w e X hC;iterate 2 refine Ac (uI (AG hn) @e1) ?_
 by_cases c1:x.kd=7
 .have d1:decide (x.kd=7)=true:=dT c1;refine IB @d1 ?_;refine CK (uI (BF Ut) (uI (Ao Ms) (uI @e3 @e4))) ?_;refine xy2 ((NP bin c oM)) ?_;refine GF (fun c2=>?_) (fun c2=>?_)
  .refine xz9 (uI (Ao Ms) @e4) ?_;try rfl
   simp only[go_sem,seval,KQ,iP c1,iP c2]
  refine xz3 ?_;try rfl
  simp only[go_sem,seval,KQ,iP c1,iN c2]
 have d1:decide (x.kd=7)=false:=dF c1;refine IB @d1 ?_;cases c2:AN x.kd with
 |false=>
  refine uD ?_;intro K hK;refine xz0 ((Kd x.kd)) ?_;first|refine Ap @c2 ?_|exact Aq @c2
  refine uH ?_;refine hK _ ?_;clear hK K;refine J8 ?_;refine uJ ?_;try rfl
  simp only[go_sem,seval,KQ,iN c1,c2,true_or]
 |true=>
  have JX:=AM c2;by_cases c3:c=-1
  .have d3:decide (c=-1)=true:=dT c3;refine uD ?_;intro K hK;refine xz0 ((Kd x.kd)) ?_;first|refine Ap (uI @c2 (uI (Ao Ms) (uI @e4 @d3))) ?_|exact Aq (uI @c2 (uI (Ao Ms) (uI @e4 @d3)))
   refine uH ?_;refine hK _ ?_;clear hK K;refine J8 ?_;refine uJ ?_;try rfl
   simp only[go_sem,seval,KQ,iN c1,c3,true_or,or_true]
  have d3:decide (c=-1)=false:=dF c3;have BH:x.ln.toNat - 1<(DW fs n x.ln.toNat).length:=oM;have FL:x.ln.toNat - 1<sl.length:=oM;have IE:(x.ln - 1).toNat=x.ln.toNat - 1:=oM;refine uD ?_;intro K hK;refine xz0 ((Kd x.kd)) ?_;first|refine Ap (uI @c2 (uI (Ao Ms) (uI @e4 @d3))) ?_|exact Aq (uI @c2 (uI (Ao Ms) (uI @e4 @d3)))
  refine xw1 Mk ?_;first|refine Ap (uI @IE (Ao BH)) ?_|exact Aq (uI @IE (Ao BH))
  refine uH ?_;refine hK _ ?_;clear hK K;have Ei:¬(AN x.kd=false\/c=-1):=by rw[c2];simp[c3]
  refine GF (fun c4=>?_) (fun c4=>?_)
  .refine xz3 ?_;try rfl
   rw[KQ,iN c1,iP (.inr (.inr c4))];rfl
  have X2:¬(AN x.kd=false\/c=-1\/(DW fs n x.ln.toNat).getD (x.ln.toNat - 1) 0=1):=fun h=>h.elim (fun h=>Ei (.inl h)) (fun h=>h.elim (fun h=>Ei (.inr h)) c4);have hl4:x.ln.toNat - 1<(p.Q.getD n []).length:=by rw[e2];exact FL
  refine DD (uI (BF Dm) (uI @e2 (uI @IE (Ao FL)))) ?_;refine uJ ?_;try rfl
  rw[KQ,iN c1,iN X2];rfl
def Lg (xs:List Nd) (f:T3):Int:=
 if f.a≠1/\f.a≠2 then 4
 else if f.b<0\/(xs.length:Int)<=f.b\/f.c<0\/(xs.getD f.b.toNat default).ln<=f.c then 1 else 0
def FC (xs:List Nd):List T3->Int
 |[]=>0|f::r=>if Lg xs f≠0 then Lg xs f else FC xs r
def JB (xs:List Nd) (cs:List Int):Bool:=(List.range cs.length).all fun i=>CM (xs.getD i default) (cs.getD i 0)
def FY (fs:List T3):Bool:=(List.range fs.length).any fun i=>(List.range i).any fun k=>decide ((fs.getD i default).b=(fs.getD k default).b)&&decide ((fs.getD i default).c=(fs.getD k default).c)
def Hf (xs:List Nd) (cs:List Int) (fs:List T3):Int:=
 if cs.length≠xs.length then 1
 else if JB xs cs=false then 1
 else if 4<fs.length then 2
 else if FC xs fs≠0 then FC xs fs
 else if FY fs=true then 5 else 0
theorem WC {xs:List Nd}:∀{fs:List T3} {i:Nat},i<fs.length->FC xs (fs.drop i)=if Lg xs (fs.getD i default)≠0 then Lg xs (fs.getD i default) else FC xs (fs.drop (i+1))
 |[],i,h=>vz3|f::r,0,_=>by simp[FC]|f::r,i+1,h=>by have:=WC (xs:=xs) (fs:=r) (i:=i) vy0;simpa using this
theorem QbK (y:Ly) (cs:List Int) (fs:List T3) (hy:y.U.length<=1000) (Dt:cs.length<=1000) (CG:fs.length<=1000) (hex:∀n,n<y.U.length->(y.U.getD n default).ex.length<=500):
  Ag prog Ad 73 [] [y.av,IS cs, .sl (Ai fs) false] [] (I (Hf y.U cs fs)):=by
 refine Am func73 ntmps73 ?_;intro w e X hC;refine xy1 (fun c1=>?_) (fun c1=>?_)
 .refine xz3 ?_;try rfl
  rw[Hf,iP oM];rfl
 have c1':¬(cs.length≠y.U.length):=oM;refine xy4 ?_;refine Aw (fun i:Nat×Nat=>⟨[(1,IS cs),(2, .sl (Ai fs) false),(3, .p 103 1 0 0 0),(7,I i.2)],(103,some (1, .box [.sl (AA y.U) false, .sl (Ai y.D) false]))::[],i.1⟩) (fun i=>i.2<=cs.length/\∀j,j<i.2->CM (y.U.getD j default) (cs.getD j 0)=true) (fun i=>cs.length - i.2) (_,0) ⟨zL _,fun j hj=>absurd hj (nZ _)⟩ (Af) ?_;rintro⟨ck,i⟩ ⟨hi,hj⟩;simp only at hi hj;refine xy1 (fun h=>?_) (fun h=>?_)
 .have F4:i<cs.length:=oM;have Aa:i<y.U.length:=oM;cases c2:CM (y.U.getD i default) (cs.getD i 0) with
  |false=>
   refine CK (uI (AG Aa) (Ao F4)) ?_;intro K hK;refine xy0 ((bQ (y.U.getD i default) (cs.getD i 0) xv7)) ?_;first|refine Ap @c2 ?_|exact Aq @c2
   refine uH ?_;refine hK _ ?_;clear hK K;refine J8 ?_;refine uJ ?_;try rfl
   have:JB y.U cs=false:=by rw[JB,List.all_eq_false];exact⟨i,List.mem_range.2 F4,by rw[c2];simp⟩
   rw[Hf,iN c1',iP this];rfl
  |true=>
   refine CK (uI (AG Aa) (Ao F4)) ?_;intro K hK;refine xy0 ((bQ (y.U.getD i default) (cs.getD i 0) xv7)) ?_;first|refine Ap @c2 ?_|exact Aq @c2
   refine uH ?_;refine hK _ ?_;clear hK K;refine J8 ?_;refine⟨(_,i+1),⟨uO,fun j Ah=>?_⟩,uO,Af⟩;by_cases AF:j=i
   .subst AF;exact c2
   exact hj j vv6
 refine At ?_;have c2:JB y.U cs=true:=by rw[JB,List.all_eq_true];intro j Ah;exact hj j vk2
 have c2':¬JB y.U cs=false:=by rw[c2];simp
 clear hj hi h;refine xy1 (fun c3=>?_) (fun c3=>?_)
 .refine xz3 ?_;try rfl
  rw[Hf,iN c1',iN c2',iP oM];rfl
 have c3':¬4<fs.length:=oM;have e0:Hf y.U cs fs=if FC y.U fs≠0 then FC y.U fs else if FY fs=true then 5 else 0:=by rw[Hf,iN c1',iN c2',iN c3']
 rw[e0];refine xy4 ?_;refine Aw (fun i:Nat×Nat=>⟨[(2, .sl (Ai fs) false),(3, .p 103 1 0 0 0),(8,I i.2)],(103,some (1, .box [.sl (AA y.U) false, .sl (Ai y.D) false]))::[],i.1⟩) (fun i=>i.2<=fs.length/\FC y.U fs=FC y.U (fs.drop i.2)) (fun i=>fs.length - i.2) (_,0) ⟨zL _,rfl⟩ (Af) ?_;rintro⟨ck,i⟩ ⟨hi,hj⟩;simp only at hi hj;refine xy1 (fun h=>?_) (fun h=>?_)
 .have Aa:i<fs.length:=oM;have e5:=WC (xs:=y.U) Aa;rw[e5] at hj;generalize e3:fs.getD i default=f at*;by_cases k1:f.a≠1/\f.a≠2
  .have d1:decide (¬f.a=1)=true:=dT k1.1;have d2:decide (¬f.a=2)=true:=dT k1.2;have e6:Lg y.U f=4:=iP k1;rw[e6] at hj;refine xq3 (uI (By Aa) (uI @e3 (uI @d1 @d2))) ?_;try rfl
   rw[hj];rfl
  have e7:Lg y.U f=if f.b<0\/(y.U.length:Int)<=f.b\/f.c<0\/(y.U.getD f.b.toNat default).ln<=f.c then 1 else 0:=iN k1
  have k2:f.a=1\/f.a=2:=oM;by_cases k3:f.b<0\/(y.U.length:Int)<=f.b\/f.c<0\/(y.U.getD f.b.toNat default).ln<=f.c
  .rw[iP k3] at e7;rw[e7] at hj;by_cases b1:f.b<0
   .rcases k2 with k2|k2
    .refine xw3 (uI (By Aa) (uI @e3 (uI @k2 @b1))) (uI (By Aa) (uI @e3 (uI @k2 @b1))) ?_;try rfl
     rw[hj];rfl
    refine xw3 (uI (By Aa) (uI @e3 (uI @k2 @b1))) (uI (By Aa) (uI @e3 (uI @k2 @b1))) ?_;try rfl
    rw[hj];rfl
   by_cases b2:(y.U.length:Int)<=f.b
   .rcases k2 with k2|k2
    .refine xw3 (uI (By Aa) (uI @e3 (uI @k2 (uI @b1 @b2)))) (uI (By Aa) (uI @e3 (uI @k2 (uI @b1 @b2)))) ?_;try rfl
     rw[hj];rfl
    refine xw3 (uI (By Aa) (uI @e3 (uI @k2 (uI @b1 @b2)))) (uI (By Aa) (uI @e3 (uI @k2 (uI @b1 @b2)))) ?_;try rfl
    rw[hj];rfl
   by_cases b3:f.c<0
   .rcases k2 with k2|k2
    .refine xw3 (uI (By Aa) (uI @e3 (uI @k2 (uI @b1 (uI @b2 @b3))))) (uI (By Aa) (uI @e3 (uI @k2 (uI @b1 (uI @b2 @b3))))) ?_;try rfl
     rw[hj];rfl
    refine xw3 (uI (By Aa) (uI @e3 (uI @k2 (uI @b1 (uI @b2 @b3))))) (uI (By Aa) (uI @e3 (uI @k2 (uI @b1 (uI @b2 @b3))))) ?_;try rfl
    rw[hj];rfl
   have b4:(y.U.getD f.b.toNat default).ln<=f.c:=oM;have Al:f.b.toNat<y.U.length:=oM;rcases k2 with k2|k2
   .refine xw3 (uI (By Aa) (uI @e3 (uI @k2 (uI @b1 (uI @b2 (uI @b3 (uI @b4 (AG Al)))))))) (uI (By Aa) (uI @e3 (uI @k2 (uI @b1 (uI @b2 (uI @b3 (uI @b4 (AG Al)))))))) ?_;try rfl
    rw[hj];rfl
   refine xw3 (uI (By Aa) (uI @e3 (uI @k2 (uI @b1 (uI @b2 (uI @b3 (uI @b4 (AG Al)))))))) (uI (By Aa) (uI @e3 (uI @k2 (uI @b1 (uI @b2 (uI @b3 (uI @b4 (AG Al)))))))) ?_;try rfl
   rw[hj];rfl
  rw[iN k3] at e7;rw[e7] at hj;have b1:¬f.b<0:=fun h=>k3 (.inl h);have b2:¬(y.U.length:Int)<=f.b:=fun h=>k3 (.inr (.inl h));have b3:¬f.c<0:=fun h=>k3 (.inr (.inr (.inl h)));have b4:¬(y.U.getD f.b.toNat default).ln<=f.c:=fun h=>k3 (.inr (.inr (.inr h)));have Al:f.b.toNat<y.U.length:=oM;rcases k2 with k2|k2
  .refine IB (uI (By Aa) (uI @e3 (uI @k2 (uI @b1 (uI @b2 (uI @b3 (uI @b4 (AG Al)))))))) ?_;refine DD (uI (By Aa) (uI @e3 (uI @k2 (uI @b1 (uI @b2 (uI @b3 (uI @b4 (AG Al)))))))) ?_;refine J8 ?_;refine⟨(_,i+1),⟨uO,xv8⟩,uO,Af⟩
  refine IB (uI (By Aa) (uI @e3 (uI @k2 (uI @b1 (uI @b2 (uI @b3 (uI @b4 (AG Al)))))))) ?_;refine DD (uI (By Aa) (uI @e3 (uI @k2 (uI @b1 (uI @b2 (uI @b3 (uI @b4 (AG Al)))))))) ?_;refine J8 ?_;refine⟨(_,i+1),⟨uO,xv8⟩,uO,Af⟩
 refine At ?_;have JL:¬FC y.U fs≠0:=by rw[hj,List.drop_eq_nil_of_le oM];simp[FC]
 rw[iN JL];clear hj hi h;refine xy4 ?_;refine Aw (fun i:Nat×Nat=>⟨[(2, .sl (Ai fs) false),(10,I i.2)],[],i.1⟩) (fun i=>i.2<=fs.length/\∀j,j<i.2->∀k,k<j->¬((fs.getD j default).b=(fs.getD k default).b/\(fs.getD j default).c=(fs.getD k default).c)) (fun i=>fs.length - i.2) (_,0) ⟨zL _,fun j hj=>absurd hj (nZ _)⟩ (Af) ?_;rintro⟨ck,i⟩ ⟨hi,hj⟩;simp only at hi hj;refine xy1 (fun h=>?_) (fun h=>?_)
 .have Aa:i<fs.length:=oM;refine xy4 ?_;refine Aw (fun k:Nat×Nat=>⟨[(2, .sl (Ai fs) false),(10,I i),(11,I k.2)],[],k.1⟩) (fun k=>k.2<=i/\∀j,j<k.2->¬((fs.getD i default).b=(fs.getD j default).b/\(fs.getD i default).c=(fs.getD j default).c)) (fun k=>i - k.2) (_,0) ⟨zL _,fun j hj=>absurd hj (nZ _)⟩ (Af) ?_;rintro⟨ck,k⟩ ⟨hk,Db⟩;simp only at hk Db;refine xy1 (fun h2=>?_) (fun h2=>?_)
  .have Mn:k<i:=oM;have A3:k<fs.length:=oM;have uk:(fs.getD i default).b=(fs.getD k default).b/\(fs.getD i default).c=(fs.getD k default).c->FY fs=true:=by intro hh;rw[FY,List.any_eq_true];refine⟨i,List.mem_range.2 Aa,?_⟩;rw[List.any_eq_true];exact⟨k,List.mem_range.2 Mn,by rw[dT hh.1,dT hh.2];rfl⟩
   generalize e3:fs.getD i default=f at*;generalize e4:fs.getD k default=q at*;by_cases b1:f.b=q.b
   .by_cases b2:f.c=q.c
    .have d1:decide (f.b=q.b)=true:=dT b1;have d2:decide (f.c=q.c)=true:=dT b2;refine DD (uI (By Aa) (uI (By A3) (uI @e3 (uI @e4 (uI @d1 @d2))))) ?_;refine J8 ?_;refine uJ ?_;try rfl
     rw[uk ⟨b1,b2⟩];rfl
    have d1:decide (f.b=q.b)=true:=dT b1;have d2:decide (f.c=q.c)=false:=dF b2;refine DD (uI (By Aa) (uI (By A3) (uI @e3 (uI @e4 (uI @d1 @d2))))) ?_;refine J8 ?_;refine⟨(_,k+1),⟨uO,fun j Ah=>?_⟩,uO,Af⟩;by_cases R7:j=k
    .subst R7;rw[e4];exact fun h=>b2 h.2
    exact Db j vv6
   have d1:decide (f.b=q.b)=false:=dF b1;refine DD (uI (By Aa) (uI (By A3) (uI @e3 (uI @e4 @d1)))) ?_;refine J8 ?_;refine⟨(_,k+1),⟨uO,fun j Ah=>?_⟩,uO,Af⟩;by_cases R7:j=k
   .subst R7;rw[e4];exact fun h=>b1 h.1
   exact Db j vv6
  refine xq6 ?_;refine⟨(_,i+1),⟨uO,fun j Ah=>?_⟩,uO,Af⟩;by_cases AF:j=i
  .subst AF;exact fun k' CV=>Db k' oM
  exact hj j vv6
 refine At ?_;have hd:¬FY fs=true:=by rw[FY,List.any_eq_true];rintro⟨j,vj,GX⟩;rw[List.any_eq_true] at GX;obtain⟨k,Bi,Ch⟩:=GX;rw[Bool.and_eq_true,decide_eq_true_eq,decide_eq_true_eq] at Ch;exact hj j (by have:=List.mem_range.1 vj;omega) k (List.mem_range.1 Bi) Ch
 refine xz3 ?_;try rfl
 rw[iN hd];rfl
def Dy (x:Nd) (sl:List Int):Bool:=
 if AN x.kd=true then decide (sl.getD 0 0=0)&&(decide (¬x.kd=5)||decide (2<=GP sl)) else true
def Ko (xs:List Nd) (p:Pl):Nat->List Bool
 |0=>[]|i+1=>Ko xs p i++[Dy (xs.getD i default) (p.Q.getD i [])]
theorem TO (xs:List Nd) (p:Pl):∀i,(Ko xs p i).length=i
 |0=>rfl|i+1=>by rw[Ko,aL,TO xs p i];rfl
theorem qq (y:Ly) (p:Pl) (hp:FB y.U p):
  Ag prog Ad 105 [] [y.av,p.av] [(100,some (1, .own 4 1 (Er (Ko y.U p y.U.length))))] (.l 100 1 0 y.U.length):=by
 have C4:=hp.xl;refine Am func105 ntmps105 ?_;intro w e X hC;refine xy4 ?_;refine Aw (fun i:Nat×Nat=>⟨[(2, .p 102 1 0 0 0),(3, .p 103 2 0 0 0),(5, .l 105 4 0 i.2),(6,I i.2)],(105,some (4, .own 4 1 (Er (Ko y.U p i.2))))::(102,some (1, .box [.sl (AA y.U) false, .sl (Ai y.D) false]))::(103,some (2, .box [RS p.Q,RS p.R]))::[],i.1⟩) (fun i=>i.2<=y.U.length) (fun i=>y.U.length - i.2) (_,0) (zL _) (Af) ?_;rintro⟨ck,i⟩ hi;simp only at hi;have AJ:=TO y.U p i;have e1:Ko y.U p (i+1)=Ko y.U p i++[Dy (y.U.getD i default) (p.Q.getD i [])]:=rfl;generalize e9:Ko y.U p i=o at*;refine xy1 (fun h=>?_) (fun h=>?_)
 .have hn:i<y.U.length:=oM;have Dm:i<p.Q.length:=vk4;have Ej:=hp.row i hn;have AK:=hp.ln i hn;have AM:=hp.st i hn;generalize e2:y.U.getD i default=x at*;generalize e3:p.Q.getD i []=sl at*;refine uZ ?_;cases c1:AN x.kd with
  |false=>
   have e4:Dy x sl=true:=by rw[Dy,c1];rfl
   refine Av (uI (AG hn) @e2) ?_;intro K hK;refine xy0 ((Kd x.kd)) ?_;first|refine Ap @c1 ?_|exact Aq @c1
   refine hK _ ?_;clear hK K;refine xq8 @AJ ?_;refine⟨(_,i+1),uO,uO, .of (lR _) (Ax (uI @e1 @e4)) A4⟩
  |true=>
   have DR:0<sl.length:=by have:=AM c1;omega
   have e4:Dy x sl=(decide (sl.getD 0 0=0)&&(decide (¬x.kd=5)||decide (2<=GP sl))):=by rw[Dy,c1];rfl
   have B8:GP sl<=sl.length:=List.count_le_length;have ef:decide ((2:Int)<=(GP sl:Int))=decide (2<=GP sl):=by by_cases h:2<=GP sl<;>simp[h]<;>omega
   refine Av (uI (AG hn) @e2) ?_;intro K hK;refine xy0 ((Kd x.kd)) ?_;first|refine Ap @c1 ?_|exact Aq @c1
   refine hK _ ?_;clear hK K;refine uT ?_;by_cases c2:sl.getD 0 0=0
   .have d2:decide (sl.getD 0 0=0)=true:=dT c2;by_cases c3:x.kd=5
    .have d3:decide (¬x.kd=5)=false:=dF (fun h=>h c3);refine Av (uI (AG hn) (uI @e2 (uI (BF Dm) (uI @e3 (uI (Ao DR) (uI @Int.toNat_zero (uI @d2 @d3))))))) ?_;refine xy7 ((ra sl oM)) ?_;have e5:Dy x sl=decide (2<=(GP sl:Int)):=by rw[e4,ef,d2,d3];rfl
     refine Bg @AJ ?_;refine⟨(_,i+1),uO,uO, .of (lR _) (Ax (uI @e1 @e5)) A4⟩
    have d3:decide (¬x.kd=5)=true:=dT c3;refine xz2 (uI (AG hn) (uI @e2 (uI (BF Dm) (uI @e3 (uI (Ao DR) (uI @Int.toNat_zero (uI @d2 @d3))))))) ?_;have e5:Dy x sl=true:=by rw[e4,d2,d3];rfl
    refine Bg @AJ ?_;refine⟨(_,i+1),uO,uO, .of (lR _) (Ax (uI @e1 @e5)) A4⟩
   have d2:decide (sl.getD 0 0=0)=false:=dF c2;refine xz2 (uI (AG hn) (uI @e2 (uI (BF Dm) (uI @e3 (uI (Ao DR) (uI @Int.toNat_zero @d2)))))) ?_;have e5:Dy x sl=false:=by rw[e4,d2];rfl
   refine Bg @AJ ?_;refine⟨(_,i+1),uO,uO, .of (lR _) (Ax (uI @e1 @e5)) A4⟩
 refine At ?_;have Ar:i=y.U.length:=oM;subst Ar;refine uZ ?_;rw[e9];refine Ay ?_;rw[show f105.results.toList=[.tmp 4] from rfl];(refine DB [(100,1,105,4)] D4 sM sM sM Bp Bp Bp ?_ ?_;all_goals (first|refine Fb ?_|exact Fc|skip))
def E6 (n lo hi:Int):Bool:=decide (lo<=n)&&decide (n<=hi)
theorem QA (n lo hi:Int):Ag prog Ad 159 [] [I n,I lo,I hi] [] (B (E6 n lo hi)):=by
 refine Am func159 ntmps159 ?_;intro w e X hC;refine uA ?_;by_cases c1:lo<=n
 .have d1:decide (lo<=n)=true:=dT c1;refine xz9 @d1 ?_;try rfl
  simp only[go_sem,seval,E6,d1,Bool.true_and]
 have d1:decide (lo<=n)=false:=dF c1;refine xz9 @d1 ?_;try rfl
 simp only[go_sem,seval,E6,d1,Bool.false_and]
def CT (kd:Int):Int:=if kd=4\/kd=5\/kd=6 then 2 else if kd=8\/kd=9 then 0 else 1
theorem cQ (kd:Int):Ag prog Ad 176 [] [I kd] [] (I (CT kd)):=by
 refine Am func176 ntmps176 ?_;intro w e X hC;iterate 2 refine uA ?_
 have kds:kd=4\/kd=5\/kd=6\/kd=8\/kd=9\/(¬kd=4/\¬kd=5/\¬kd=6/\¬kd=8/\¬kd=9):=oM;rcases kds with c|c|c|c|c|⟨c1,c2,c3,c4,c5⟩
 .subst c;refine J8 ?_;exact uP
 .subst c;refine J8 ?_;exact uP
 .subst c;refine J8 ?_;exact uP
 .subst c;refine J8 ?_;exact uP
 .subst c;refine J8 ?_;exact uP
 have e1:CT kd=1:=by simp[CT,c1,c2,c3,c4,c5]
 refine xq3 (uI @c1 (uI @c2 (uI @c3 (uI @c4 @c5)))) ?_;try rfl
 exact Aq @e1
def KR (x:Nd) (f t:Int):Bool:=decide (¬f=t)&&decide (t∈x.ex)
theorem YT (y:Ly) (f:Nat) (t:Int) (hf:f<y.U.length) (hy:y.U.length<=1000) (hx:(y.U.getD f default).ex.length<=1000):
  Ag prog Ad 209 [] [y.av,I f,I t] [] (B (KR (y.U.getD f default) f t)):=by
 refine Am func209 ntmps209 ?_;intro w e X hC;refine uA ?_;by_cases c1:(f:Int)=t
 .have d1:decide (¬(f:Int)=t)=false:=dF (fun h=>h c1);refine xz9 @d1 ?_;try rfl
  simp only[go_sem,seval,KR,d1,Bool.false_and]
 have d1:decide (¬(f:Int)=t)=true:=dT c1;refine Av (uI @d1 (AG hf)) ?_;refine xy7 ((NP (y.U.getD f default).ex t oM)) ?_;refine uJ ?_;try rfl
 simp only[go_sem,seval,KR,d1,Bool.true_and]
def FT (xs:List Nd):Nat->Int
 |0=>0|i+1=>FT xs i+(xs.getD i default).ln
theorem ZR {xs:List Nd} (hx:∀i,i<xs.length->0<=(xs.getD i default).ln/\(xs.getD i default).ln<=1000):∀i,i<=xs.length->0<=FT xs i/\FT xs i<=1000*i
 |0,_=>by simp[FT]|i+1,h=>by have:=ZR hx i oM;have:=hx i oM;rw[FT];omega
def MV (xs:List Nd):Int:=FT xs xs.length
theorem Qgg (y:Ly) (hy:y.U.length<=1000) (hx:∀i,i<y.U.length->0<=(y.U.getD i default).ln/\(y.U.getD i default).ln<=1000):
  Ag prog Ad 156 [] [y.av] [] (I (MV y.U)):=by
 refine Am func156 ntmps156 ?_;intro w e X hC;refine xy4 ?_;refine Aw (fun i:Nat×Nat=>⟨[(1, .p 101 1 0 0 0),(3,I (FT y.U i.2)),(4,I i.2)],(101,some (1, .box [.sl (AA y.U) false, .sl (Ai y.D) false]))::[],i.1⟩) (fun i=>i.2<=y.U.length) (fun i=>y.U.length - i.2) (_,0) (zL _) (Af) ?_;rintro⟨ck,i⟩ hi;simp only at hi;have hb:=ZR hx i hi;have e1:FT y.U (i+1)=FT y.U i+(y.U.getD i default).ln:=rfl;generalize e9:FT y.U i=o at*;refine xy1 (fun h=>?_) (fun h=>?_)
 .have hn:i<y.U.length:=oM;have YB:=hx i hn;refine Bg (AG hn) ?_;refine⟨(_,i+1),uO,uO, .of (lR _) Cb (AS @e1)⟩
 refine At ?_;have Ar:i=y.U.length:=oM;subst Ar;refine xz3 ?_;try rfl
 rw[MV,e9];rfl
theorem bh {a b:ByteArray} (h:a.data.toList=b.data.toList):a=b:=by
 cases a;cases b
 congr 1
 exact Array.toList_inj.1 h
def Fi (xs:List Nd) (nm:ByteArray):Int:=match xs.findIdx? fun x=>decide (x.nm=nm) with|some i=>i|none=>-1
theorem dc (y:Ly) (nm:ByteArray) (hy:y.U.length<=1000):Ag prog Ad 126 [] [y.av,S nm] [] (I (Fi y.U nm)):=by
 refine Am func126 ntmps126 ?_;intro w e X hC;refine xy4 ?_;refine Aw (fun i:Nat×Nat=>⟨[(1,S nm),(2, .p 102 1 0 0 0),(5,I i.2)],(102,some (1, .box [.sl (AA y.U) false, .sl (Ai y.D) false]))::[],i.1⟩) (fun i=>i.2<=y.U.length/\∀j,j<i.2->(y.U.getD j default).nm≠nm) (fun i=>y.U.length - i.2) (_,0) ⟨zL _,fun j hj=>absurd hj (nZ _)⟩ (Af) ?_;rintro⟨ck,i⟩ ⟨hi,hj⟩;simp only at hi hj;refine xy1 (fun h=>?_) (fun h=>?_)
 .have hn:i<y.U.length:=oM;refine Bg (AG hn) ?_;refine GF (fun c1=>?_) (fun c1=>?_)
  .have c2:=bh c1;refine uZ ?_;have e1:(y.U.findIdx? fun x=>decide (x.nm=nm))=some i:=by rw[List.findIdx?_eq_some_iff_getElem];refine⟨hn,by simpa[hn] using c2,fun j Ah=>?_⟩;have GX:j<y.U.length:=oM;simpa[GX] using hj j Ah
   refine uJ ?_;try rfl
   rw[Fi,e1];rfl
  refine uZ ?_;refine⟨(_,i+1),⟨uO,fun j Ah=>?_⟩,uO,Af⟩;by_cases AF:j=i
  .subst AF;exact fun h=>c1 xv5
  exact hj j vv6
 refine At ?_;have e1:(y.U.findIdx? fun x=>decide (x.nm=nm))=none:=by rw[List.findIdx?_eq_none_iff];intro x hx;obtain⟨j,Ah,rfl⟩:=List.getElem_of_mem hx;simpa[Ah] using hj j oM
 refine xz3 ?_;try rfl
 rw[Fi,e1];rfl
def EC (xs:List Nd) (out:List Int) (i:Nat):Nat->Bool
 |0=>!decide ((i:Int)∈out)|k+1=>if KR (xs.getD k default) k i=true/\¬(k:Int)∈out then false else EC xs out i k
def Ga (xs:List Nd) (out:List Int):Nat->Int
 |0=>-1|c+1=>if EC xs out (xs.length - 1 - c) xs.length=true then((xs.length - 1 - c:Nat):Int) else Ga xs out c
def Gb (xs:List Nd) (out:List Int):Int:=Ga xs out xs.length
def CA (xs:List Nd):Nat->List Int
 |0=>[]|n+1=>if Gb xs (CA xs n)<0 then CA xs n else CA xs n++[Gb xs (CA xs n)]
theorem Zd {xs:List Nd} {n:Nat} (h:Gb xs (CA xs n)<0):∀m,CA xs (n+m)=CA xs n
 |0=>rfl|m+1=>by have ih:=Zd h m;rw[Nat.add_succ,CA,ih,iP h]
theorem iQ {xs:List Nd} {out:List Int}:∀c,Ga xs out c<max 1 (xs.length:Int)
 |0=>by rw[Ga];omega|c+1=>by have:=iQ (xs:=xs) (out:=out) c;rw[Ga];split<;>omega
def Dz (xs:List Nd):List Int:=CA xs xs.length
theorem ja (y:Ly) (hy:y.U.length<=1000) (hx:∀i,i<y.U.length->(y.U.getD i default).ex.length<=1000):
  Ag prog Ad 158 [] [y.av] [] (IS (Dz y.U)):=by
 refine Am func158 ntmps158 ?_;intro w e X hC;refine xy4 ?_;refine Aw (fun i:Nat×Nat=>⟨[(1, .p 101 1 0 0 0),(3, .l 103 3 0 i.2)],(103,some (3, .own 3 1 (As (CA y.U i.2))))::(101,some (1, .box [.sl (AA y.U) false, .sl (Ai y.D) false]))::[],i.1⟩) (fun i=>i.2<=y.U.length/\(CA y.U i.2).length=i.2) (fun i=>y.U.length - i.2) (_,0) ⟨zL _,rfl⟩ (Af) ?_;rintro⟨ck,n⟩ ⟨hn,AR⟩;simp only at hn AR;have e1:CA y.U (n+1)=if Gb y.U (CA y.U n)<0 then CA y.U n else CA y.U n++[Gb y.U (CA y.U n)]:=rfl
 have AM (h:Gb y.U (CA y.U n)<0):Dz y.U=CA y.U n:=by have:=Zd h (y.U.length - n);rw[show n+(y.U.length - n)=y.U.length by omega] at this;exact this
 have Xz (h:n=y.U.length):Dz y.U=CA y.U n:=by rw[h];rfl
 generalize e9:CA y.U n=o at*;refine Bg @AR ?_;refine GF (fun h=>?_) (fun h=>?_)
 .have Aa:n<y.U.length:=oM;refine Bg @AR ?_;have ei:(y.U.length:Int) - 1=((y.U.length:Int) - 1 - ((0:Nat):Int)):=oM;refine uW ?_;refine Aw (fun c:Nat×Nat=>⟨[(1, .p 101 1 0 0 0),(3, .l 103 3 0 n),(4,I (Ga y.U o c.2)),(5,I ((y.U.length:Int) - 1 - c.2))],(103,some (3, .own 3 1 (As o)))::(101,some (1, .box [.sl (AA y.U) false, .sl (Ai y.D) false]))::[],c.1⟩) (fun c=>c.2<=y.U.length) (fun c=>y.U.length - c.2) (_,0) (zL _) (.of (lR _) Cb (by repeat (first|exact BA.nil|refine BA.cons rfl ?_|(refine BA.cons ?_ ?_;(focus (simp only[go_sem,seval,-Int.reduceNatCast',<-ei];done)))|(refine BA.snap ?_ ?_ ?_ ?_;(focus (first|exact trivial|(simp only[go_sem,seval,-Int.reduceNatCast',<-ei]<;>trivial)));(focus (first|rfl|((simp only[go_sem,seval,-Int.reduceNatCast',<-ei]<;>rfl);done)));(focus (first|(simp only[go_sem,seval,-Int.reduceNatCast',<-ei];done)|((simp only[go_sem,seval,-Int.reduceNatCast',<-ei]<;>simp);done)|(simp;done))))))) ?_;rintro⟨ck,c⟩ hc;simp only at hc;refine xy1 (fun h2=>?_) (fun h2=>?_)
  .have Cy:c<y.U.length:=oM;obtain⟨i,hi⟩:∃i,i=y.U.length - 1 - c:=⟨_,rfl⟩;have u7:(y.U.length:Int) - 1 - c=i:=oM;have DQ:i<y.U.length:=oM;have e2:Ga y.U o (c+1)=if EC y.U o i y.U.length=true then(i:Int) else Ga y.U o c:=by rw[Ga,<-hi]
   have e3:(i:Int) - 1=(y.U.length:Int) - 1 - ((c+1:Nat):Int):=oM;simp only[u7];generalize Ga y.U o c=nx at*;refine uR ?_;intro K hK;refine uH ?_;refine JA (rc:=B (decide ((i:Int)∈o))) ?_ ?_ ?_ ?_ ?_ ?_;(focus (first|exact trivial|(simp only[go_sem,seval,AR]<;>trivial)));(focus (simp only[go_sem,seval,AR];exact(NP o i oM)));(focus (first|exact trivial|(simp only[go_sem,seval,AR]<;>trivial)));(focus (first|exact trivial|(simp only[go_sem,seval,AR]<;>trivial)));(focus (first|exact trivial|(simp only[go_sem,seval,AR]<;>trivial)));first|refine Ap @AR ?_|exact Aq @AR
   refine hK _ ?_;clear hK K;refine uZ ?_;have e5:EC y.U o i 0=!decide ((i:Int)∈o):=rfl;refine uW ?_;refine Aw (fun k:Nat×Nat=>⟨[(1, .p 101 1 0 0 0),(3, .l 103 3 0 n),(4,I nx),(5,I i),(6,B (EC y.U o i k.2)),(7,I k.2)],(103,some (3, .own 3 1 (As o)))::(101,some (1, .box [.sl (AA y.U) false, .sl (Ai y.D) false]))::[],k.1⟩) (fun k=>k.2<=y.U.length) (fun k=>y.U.length - k.2) (_,0) (zL _) (.of (lR _) Cb (AS @e5)) ?_;rintro⟨ck,k⟩ hk;simp only at hk;refine xy1 (fun h3=>?_) (fun h3=>?_)
   .have A3:k<y.U.length:=oM;have e6:EC y.U o i (k+1)=if KR (y.U.getD k default) k i=true/\¬(k:Int)∈o then false else EC y.U o i k:=rfl
    have MA:=hx k A3;generalize EC y.U o i k=rd at*;cases c1:KR (y.U.getD k default) k i with
    |false=>
     rw[iN (by rw[c1];simp)] at e6;refine uR ?_;intro K hK;refine xz0 ((YT y k i A3 hy MA)) ?_;first|refine Ap @c1 ?_|exact Aq @c1
     refine hK _ ?_;clear hK K;refine J8 ?_;refine uZ ?_;refine⟨(_,k+1),uO,uO, .of (lR _) Cb (AS @e6)⟩
    |true=>
     by_cases c2:(k:Int)∈o
     .have d2:decide ((k:Int)∈o)=true:=dT c2;rw[iN (fun h=>h.2 c2)] at e6;refine uR ?_;intro K hK;refine xz0 ((YT y k i A3 hy MA)) ?_;first|refine Ap @c1 ?_|exact Aq @c1
      refine JA (rc:=B (decide ((k:Int)∈o))) ?_ ?_ ?_ ?_ ?_ ?_;(focus (first|exact trivial|(simp only[go_sem,seval,AR,d2]<;>trivial)));(focus (simp only[go_sem,seval,AR,d2];exact(by have:=NP o k oM;simpa only[d2] using this)));(focus (first|exact trivial|(simp only[go_sem,seval,AR,d2]<;>trivial)));(focus (first|exact trivial|(simp only[go_sem,seval,AR,d2]<;>trivial)));(focus (first|exact trivial|(simp only[go_sem,seval,AR,d2]<;>trivial)));first|refine Ap (uI @AR @d2) ?_|exact Aq (uI @AR @d2)
      refine hK _ ?_;clear hK K;refine J8 ?_;refine uZ ?_;refine⟨(_,k+1),uO,uO, .of (lR _) Cb (AS @e6)⟩
     have d2:decide ((k:Int)∈o)=false:=dF c2;rw[iP ⟨c1,c2⟩] at e6;refine uR ?_;intro K hK;refine xz0 ((YT y k i A3 hy MA)) ?_;first|refine Ap @c1 ?_|exact Aq @c1
     refine JA (rc:=B (decide ((k:Int)∈o))) ?_ ?_ ?_ ?_ ?_ ?_;(focus (first|exact trivial|(simp only[go_sem,seval,AR,d2]<;>trivial)));(focus (simp only[go_sem,seval,AR,d2];exact(by have:=NP o k oM;simpa only[d2] using this)));(focus (first|exact trivial|(simp only[go_sem,seval,AR,d2]<;>trivial)));(focus (first|exact trivial|(simp only[go_sem,seval,AR,d2]<;>trivial)));(focus (first|exact trivial|(simp only[go_sem,seval,AR,d2]<;>trivial)));first|refine Ap (uI @AR @d2) ?_|exact Aq (uI @AR @d2)
     refine hK _ ?_;clear hK K;refine J8 ?_;refine uZ ?_;refine⟨(_,k+1),uO,uO, .of (lR _) Cb (AS @e6)⟩
   refine At ?_;have CV:k=y.U.length:=oM;subst CV;cases c1:EC y.U o i y.U.length with
   |false=>rw[c1,iN sM] at e2;refine J8 ?_;refine⟨(_,c+1),uO,uO, .of (lR _) Cb (AS (uI @e2 @e3))⟩|true=>rw[c1,iP rfl] at e2;refine J8 ?_;refine⟨(_,c+1),uO,uO, .of (lR _) Cb (AS (uI @e2 @e3))⟩
  refine At ?_;have Hu:c=y.U.length:=oM;subst Hu;have e4:Ga y.U o y.U.length=Gb y.U o:=rfl;rw[e4];refine xy1 (fun c1=>?_) (fun c1=>?_)
  .have e5:=AM c1;refine uZ ?_;(refine Ay (QO (Vv @AR) ?_);try rfl)
   exact Aq (uI @AR @e5)
  rw[iN c1] at e1;have e6:(CA y.U (n+1)).length=n+1:=by rw[e1];simp[AR]
  refine Bg @AR ?_;refine⟨(_,n+1),⟨uO,e6⟩,uO, .of (lR _) (Ax @e1) A4⟩
 refine At ?_;have e4:=Xz oM;refine uZ ?_;(refine Ay (QO (Vv @AR) ?_);try rfl)
 exact Aq (uI @AR @e4)
end Go.Proofs.YtfcgkbinohibcaaGreatDoor
