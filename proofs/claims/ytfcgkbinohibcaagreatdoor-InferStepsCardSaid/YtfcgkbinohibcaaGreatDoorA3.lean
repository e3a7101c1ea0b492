/- Lemmas towards inferSteps_card: no conditions of their own. -/
import Derived.Test.YtfcgkbinohibcaaGreatDoorA2
import Derived.Test.YtfcgkbinohibcaaGreatDoorRows
set_option linter.all false
namespace Go.Sym
open Go Go.Great
theorem acL(v:Value):AV.cells (.lit v)=[.lit v]:=rfl
theorem acW(es:List AV)(b:Bool):AV.cells (.sl es b)=[.sl es b]:=rfl
theorem aou(t k:Nat)(es:List AV):AV.cells (.Rc t k es)=[.Rc t k es]:=rfl
theorem aow(cs:List AV):AV.cells (.P cs)=[.P cs]:=rfl
theorem apO(id g off len:Nat):AV.cells (.l id g off len)=[.l id g off len]:=rfl
theorem anp(id g n i off:Nat):AV.cells (.p id g n i off)=[.p id g n i off]:=rfl
theorem ain(f:FuncId)(cs:List AV):AV.cells (.fn f cs)=[.fn f cs]:=rfl
theorem acf(cs:List AV):AV.cells (.agg cs)=cs:=rfl
theorem aqI(id g:Nat):AV.cells (.Ic id g)=[.Ic id g]:=rfl
theorem apU(v:Value):AV.one (.lit v)=true:=rfl
theorem ae6(v:Value):AV.Je (.lit v)=true:=rfl
theorem af3(es:List AV)(b:Bool):AV.one (.sl es b)=true:=rfl
theorem aqZ(es:List AV)(b:Bool):AV.Je (.sl es b)=true:=rfl
theorem aki(cs:List AV):AV.one (.P cs)=true:=rfl
theorem akF(cs:List AV):AV.Je (.P cs)=true:=rfl
theorem alw(id g off len:Nat):AV.one (.l id g off len)=true:=rfl
theorem atw(id g off len:Nat):AV.Je (.l id g off len)=true:=rfl
theorem abB(id g n i off:Nat):AV.one (.p id g n i off)=true:=rfl
theorem alA(id g n i off:Nat):AV.Je (.p id g n i off)=true:=rfl
theorem ajJ(f:FuncId)(cs:List AV):AV.one (.fn f cs)=true:=rfl
theorem ahA(f:FuncId)(cs:List AV):AV.Je (.fn f cs)=true:=rfl
theorem alZ(id g:Nat):AV.one (.Ic id g)=true:=rfl
theorem asv(id g:Nat):AV.Je (.Ic id g)=true:=rfl
theorem adP(f':AV->AV)(v:Value):cK f' (.lit v)=f' (.lit v):=rfl
theorem arb(f':AV->AV)(es:List AV)(b:Bool):cK f' (.sl es b)=f' (.sl es b):=rfl
theorem ad6(f':AV->AV)(cs:List AV):cK f' (.P cs)=f' (.P cs):=rfl
theorem apG(f':AV->AV)(id g off len:Nat):cK f' (.l id g off len)=f' (.l id g off len):=rfl
theorem ajP(f':AV->AV)(id g n i off:Nat):cK f' (.p id g n i off)=f' (.p id g n i off):=rfl
theorem aq3(f':AV->AV)(f:FuncId)(cs:List AV):cK f' (.fn f cs)=f' (.fn f cs):=rfl
theorem asH(f':AV->AV)(cs:List AV):cK f' (.agg cs)=.agg (cs.map f'):=rfl
theorem aru(hp:Hp)(v:Value):fz 0 hp (.lit v)=.lit v:=rfl
theorem ads(hp:Hp)(v:Value):Xa 0 hp (.lit v)=True:=rfl
theorem aeZ(hp:Hp)(es:List AV)(b:Bool):Xa 0 hp (.sl es b)=True:=rfl
theorem atn(hp:Hp)(cs:List AV):Xa 0 hp (.P cs)=True:=rfl
theorem auR(hp:Hp)(id g off len:Nat):fz 1 hp (.l id g off len)=(match hp.get id with|some (_,.own _ _ es)=>.sl ((es.drop off).map (cK (fz 0 hp))) false|_=>.bad):=rfl
theorem adX(hp:Hp)(id g off len:Nat):Xa 1 hp (.l id g off len)=(match hp.get id with|some (g',.own _ _ es)=>g'=g/\es.length=off+len/\∀e∈es,∀c∈e.cells,Xa 0 hp c|_=>False):=rfl
theorem au5(hp:Hp)(id g n i off:Nat):fz 1 hp (.p id g n i off)=(match hp.get id with|some (_,.box cs)=>.P ((cs.drop off).map (fz 0 hp))|some (_,.own _ _ es)=>.P (((es.getD i .bad).cells.drop off).map (fz 0 hp))|_=>.bad):=rfl
theorem afZ(hp:Hp)(v:Value):fz 3 hp (.lit v)=.lit v:=rfl
theorem aoT(hp:Hp)(v:Value):Xa 3 hp (.lit v)=True:=rfl
theorem aiG(hp:Hp)(v:Value):qg 3 hp (.lit v)=[]:=rfl
theorem aeB(hp:Hp)(es:List AV)(b:Bool):fz 3 hp (.sl es b)=.sl es false:=rfl
theorem atU(hp:Hp)(es:List AV)(b:Bool):Xa 3 hp (.sl es b)=True:=rfl
theorem adC(hp:Hp)(es:List AV)(b:Bool):qg 3 hp (.sl es b)=[]:=rfl
theorem amL(hp:Hp)(cs:List AV):Xa 3 hp (.P cs)=True:=rfl
theorem atY(hp:Hp)(v:Value):fz 4 hp (.lit v)=.lit v:=rfl
theorem aiw(hp:Hp)(v:Value):Xa 4 hp (.lit v)=True:=rfl
theorem aii(hp:Hp)(v:Value):qg 4 hp (.lit v)=[]:=rfl
theorem asK(hp:Hp)(es:List AV)(b:Bool):fz 4 hp (.sl es b)=.sl es false:=rfl
theorem aaZ(hp:Hp)(es:List AV)(b:Bool):Xa 4 hp (.sl es b)=True:=rfl
theorem aoU(hp:Hp)(es:List AV)(b:Bool):qg 4 hp (.sl es b)=[]:=rfl
theorem ahp(hp:Hp)(cs:List AV):fz 4 hp (.P cs)=.P cs:=rfl
theorem aeM(hp:Hp)(cs:List AV):Xa 4 hp (.P cs)=True:=rfl
theorem ait(hp:Hp)(cs:List AV):qg 4 hp (.P cs)=[]:=rfl
theorem acA(hp:Hp)(id g off len:Nat):fz 4 hp (.l id g off len)=(match hp.get id with|some (_,.own _ _ es)=>.sl ((es.drop off).map (cK (fz 3 hp))) false|_=>.bad):=rfl
theorem aip(hp:Hp)(id g off len:Nat):Xa 4 hp (.l id g off len)=(match hp.get id with|some (g',.own _ _ es)=>g'=g/\es.length=off+len/\∀e∈es,∀c∈e.cells,Xa 3 hp c|_=>False):=rfl
theorem adF(hp:Hp)(id g off len:Nat):qg 4 hp (.l id g off len)=(id::match hp.get id with|some (_,.own _ _ es)=>es.flatMap fun e=>e.cells.flatMap (qg 3 hp)|_=>[]):=rfl
theorem ark(hp:Hp)(id g n i off:Nat):fz 4 hp (.p id g n i off)=(match hp.get id with|some (_,.box cs)=>.P ((cs.drop off).map (fz 3 hp))|some (_,.own _ _ es)=>.P (((es.getD i .bad).cells.drop off).map (fz 3 hp))|_=>.bad):=rfl
theorem aaQ(hp:Hp)(id g n i off:Nat):Xa 4 hp (.p id g n i off)=(match hp.get id with|some (g',.box cs)=>g'=g/\n=0/\i=0/\∀c∈cs,Xa 3 hp c|some (g',.own _ _ es)=>g'=g/\n=es.length/\i<es.length/\∀c∈(es.getD i .bad).cells,Xa 3 hp c|_=>False):=rfl
theorem afC(hp:Hp)(id g n i off:Nat):qg 4 hp (.p id g n i off)=(id::match hp.get id with|some (_,.box cs)=>cs.flatMap (qg 3 hp)|some (_,.own _ _ es)=>(es.getD i .bad).cells.flatMap (qg 3 hp)|_=>[]):=rfl
theorem aaU(hp:Hp)(v:Value):mH hp (.lit v)=cK (fz 4 hp) (.lit v):=rfl
theorem aqW(hp:Hp)(v:Value):pj hp (.lit v)=(∀c∈AV.cells (.lit v),Xa 4 hp c):=rfl
theorem aqr(hp:Hp)(v:Value):ui hp (.lit v)=(AV.cells (.lit v)).flatMap (qg 4 hp):=rfl
theorem abZ(hp:Hp)(id g off len:Nat):mH hp (.l id g off len)=cK (fz 4 hp) (.l id g off len):=rfl
theorem ar5(hp:Hp)(id g off len:Nat):pj hp (.l id g off len)=(∀c∈AV.cells (.l id g off len),Xa 4 hp c):=rfl
theorem am4(hp:Hp)(id g off len:Nat):ui hp (.l id g off len)=(AV.cells (.l id g off len)).flatMap (qg 4 hp):=rfl
theorem acv(hp:Hp)(cs:List AV):mH hp (.agg cs)=cK (fz 4 hp) (.agg cs):=rfl
theorem aiQ(hp:Hp)(cs:List AV):pj hp (.agg cs)=(∀c∈AV.cells (.agg cs),Xa 4 hp c):=rfl
theorem ahP(hp:Hp)(vs:List AV):mH hp (.F1 vs)=.F1 (vs.map (cK (fz 4 hp))):=rfl
theorem as5(hp:Hp)(vs:List AV):pj hp (.F1 vs)=(∀v∈vs,∀c∈v.cells,Xa 4 hp c):=rfl
theorem ar2(hp:Hp)(v:Value):vZ hp (.lit v)=.lit v:=rfl
theorem aew(hp:Hp)(v:Value):Kr hp (.lit v)=True:=rfl
theorem arT(v:Value):JR (.lit v)=[]:=rfl
theorem afp(hp:Hp)(es:List AV)(b:Bool):vZ hp (.sl es b)=.sl es b:=rfl
theorem abI(hp:Hp)(es:List AV)(b:Bool):Kr hp (.sl es b)=True:=rfl
theorem al8(es:List AV)(b:Bool):JR (.sl es b)=[]:=rfl
theorem ag1(hp:Hp)(id g off len:Nat):vZ hp (.l id g off len)=(match hp.get id with|some (_,.own t k es)=>if off=0 then .Rc t k (es.map (cK (fz 0 hp))) else fz 1 hp (.l id g off len)|_=>.bad):=rfl
theorem amC(hp:Hp)(id g off len:Nat):Kr hp (.l id g off len)=Xa 1 hp (.l id g off len):=rfl
theorem ags(id g off len:Nat):JR (.l id g off len)=[id]:=rfl
theorem at6(hp:Hp)(es:List AV)(b:Bool):Ym hp (.sl es b)=some es:=rfl
theorem aer(hp:Hp)(es:List AV)(b:Bool):HN hp (.sl es b)=True:=rfl
theorem aun(hp:Hp)(es:List AV)(b:Bool):Vz hp (.sl es b)=uo es:=rfl
theorem akJ(hp:Hp)(id g off len:Nat):Ym hp (.l id g off len)=(match hp.get id with|some (_,.own _ _ es)=>some (es.drop off)|_=>none):=rfl
theorem am8(hp:Hp)(id g off len:Nat):HN hp (.l id g off len)=(match hp.get id with|some (g',.own _ _ es)=>g'=g/\es.length=off+len|_=>False):=rfl
theorem al9(hp:Hp)(id g off len:Nat):Vz hp (.l id g off len)=(match (match hp.get id with|some (_,.own _ _ es)=>some (es.drop off)|_=>none)with|some ys=>uo ys|none=>[]):=rfl
theorem amb(cs:List AV):W2 (.P cs)=[]:=rfl
theorem alC(τ:Nm)(hp:Hp)(v:Value):gq true τ hp (.lit v)=fz 4 hp (.lit v):=rfl
theorem aty(τ:Nm)(hp:Hp)(v:Value):Ah true τ hp (.lit v)=Xa 4 hp (.lit v):=rfl
theorem abp(τ:Nm)(hp:Hp)(v:Value):pg true τ hp (.lit v)=qg 4 hp (.lit v):=rfl
theorem asy(τ:Nm)(hp:Hp)(v:Value):OB true τ hp (.lit v)=gq true τ hp (.lit v):=rfl
theorem apQ(τ:Nm)(hp:Hp)(v:Value):m_ true τ hp (.lit v)=Ah true τ hp (.lit v):=rfl
theorem ajj(τ:Nm)(hp:Hp)(v:Value):l8 true τ hp (.lit v)=pg true τ hp (.lit v):=rfl
theorem ahL(τ:Nm)(hp:Hp)(v:Value):GV true τ hp (.lit v)=OB true τ hp (.lit v):=rfl
theorem afI(τ:Nm)(hp:Hp)(v:Value):MO true τ hp (.lit v)=m_ true τ hp (.lit v):=rfl
theorem ak4(τ:Nm)(hp:Hp)(v:Value):AB true τ hp (.lit v)=l8 true τ hp (.lit v):=rfl
theorem aaT(τ:Nm)(hp:Hp)(v:Value):qO true τ hp (.lit v)=cK (OB true τ hp) (.lit v):=rfl
theorem arY(τ:Nm)(hp:Hp)(v:Value):TK true τ hp (.lit v)=(∀c∈AV.cells (.lit v),m_ true τ hp c):=rfl
theorem apu(τ:Nm)(hp:Hp)(v:Value):GB true τ hp (.lit v)=(AV.cells (.lit v)).flatMap (l8 true τ hp):=rfl
theorem akV(τ:Nm)(hp:Hp)(es:List AV)(b:Bool):gq true τ hp (.sl es b)=fz 4 hp (.sl es b):=rfl
theorem ac6(τ:Nm)(hp:Hp)(es:List AV)(b:Bool):Ah true τ hp (.sl es b)=Xa 4 hp (.sl es b):=rfl
theorem am9(τ:Nm)(hp:Hp)(es:List AV)(b:Bool):pg true τ hp (.sl es b)=qg 4 hp (.sl es b):=rfl
theorem afi(τ:Nm)(hp:Hp)(es:List AV)(b:Bool):OB true τ hp (.sl es b)=gq true τ hp (.sl es b):=rfl
theorem ao1(τ:Nm)(hp:Hp)(es:List AV)(b:Bool):m_ true τ hp (.sl es b)=Ah true τ hp (.sl es b):=rfl
theorem acV(τ:Nm)(hp:Hp)(es:List AV)(b:Bool):l8 true τ hp (.sl es b)=pg true τ hp (.sl es b):=rfl
theorem aj9(τ:Nm)(hp:Hp)(es:List AV)(b:Bool):qO true τ hp (.sl es b)=cK (OB true τ hp) (.sl es b):=rfl
theorem ahX(τ:Nm)(hp:Hp)(es:List AV)(b:Bool):TK true τ hp (.sl es b)=(∀c∈AV.cells (.sl es b),m_ true τ hp c):=rfl
theorem ai7(τ:Nm)(hp:Hp)(es:List AV)(b:Bool):GB true τ hp (.sl es b)=(AV.cells (.sl es b)).flatMap (l8 true τ hp):=rfl
theorem aco(τ:Nm)(hp:Hp)(cs:List AV):gq true τ hp (.P cs)=fz 4 hp (.P cs):=rfl
theorem am7(τ:Nm)(hp:Hp)(cs:List AV):Ah true τ hp (.P cs)=Xa 4 hp (.P cs):=rfl
theorem ajA(τ:Nm)(hp:Hp)(cs:List AV):pg true τ hp (.P cs)=qg 4 hp (.P cs):=rfl
theorem amJ(τ:Nm)(hp:Hp)(cs:List AV):OB true τ hp (.P cs)=gq true τ hp (.P cs):=rfl
theorem ama(τ:Nm)(hp:Hp)(cs:List AV):m_ true τ hp (.P cs)=Ah true τ hp (.P cs):=rfl
theorem aqO(τ:Nm)(hp:Hp)(cs:List AV):l8 true τ hp (.P cs)=pg true τ hp (.P cs):=rfl
theorem apE(τ:Nm)(hp:Hp)(cs:List AV):qO true τ hp (.P cs)=cK (OB true τ hp) (.P cs):=rfl
theorem as2(τ:Nm)(hp:Hp)(cs:List AV):TK true τ hp (.P cs)=(∀c∈AV.cells (.P cs),m_ true τ hp c):=rfl
theorem aoL(τ:Nm)(hp:Hp)(cs:List AV):GB true τ hp (.P cs)=(AV.cells (.P cs)).flatMap (l8 true τ hp):=rfl
theorem aod(τ:Nm)(hp:Hp)(id g off len:Nat):gq true τ hp (.l id g off len)=(match lk τ id with|some (i',gi,ga)=>if g=ga then .l i' gi off len else .bad|none=>fz 4 hp (.l id g off len)):=rfl
theorem aqV(τ:Nm)(hp:Hp)(id g off len:Nat):Ah true τ hp (.l id g off len)=(match lk τ id with|some (_,_,ga)=>g=ga|none=>Xa 4 hp (.l id g off len)):=rfl
theorem auo(τ:Nm)(hp:Hp)(id g off len:Nat):pg true τ hp (.l id g off len)=(match lk τ id with|some _=>[]|none=>qg 4 hp (.l id g off len)):=rfl
theorem ag3(τ:Nm)(hp:Hp)(id g off len:Nat):OB true τ hp (.l id g off len)=gq true τ hp (.l id g off len):=rfl
theorem ahM(τ:Nm)(hp:Hp)(id g off len:Nat):m_ true τ hp (.l id g off len)=Ah true τ hp (.l id g off len):=rfl
theorem atF(τ:Nm)(hp:Hp)(id g off len:Nat):l8 true τ hp (.l id g off len)=pg true τ hp (.l id g off len):=rfl
theorem at2(τ:Nm)(hp:Hp)(id g off len:Nat):qO true τ hp (.l id g off len)=cK (OB true τ hp) (.l id g off len):=rfl
theorem abC(τ:Nm)(hp:Hp)(id g off len:Nat):TK true τ hp (.l id g off len)=(∀c∈AV.cells (.l id g off len),m_ true τ hp c):=rfl
theorem ap0(τ:Nm)(hp:Hp)(id g off len:Nat):GB true τ hp (.l id g off len)=(AV.cells (.l id g off len)).flatMap (l8 true τ hp):=rfl
theorem atS(τ:Nm)(hp:Hp)(id g n i off:Nat):gq true τ hp (.p id g n i off)=(match lk τ id with|some (i',gi,ga)=>if g=ga then .p i' gi n i off else .bad|none=>fz 4 hp (.p id g n i off)):=rfl
theorem ab4(τ:Nm)(hp:Hp)(id g n i off:Nat):Ah true τ hp (.p id g n i off)=(match lk τ id with|some (_,_,ga)=>g=ga|none=>Xa 4 hp (.p id g n i off)):=rfl
theorem aj3(τ:Nm)(hp:Hp)(id g n i off:Nat):pg true τ hp (.p id g n i off)=(match lk τ id with|some _=>[]|none=>qg 4 hp (.p id g n i off)):=rfl
theorem aa2(τ:Nm)(hp:Hp)(id g n i off:Nat):OB true τ hp (.p id g n i off)=gq true τ hp (.p id g n i off):=rfl
theorem aoC(τ:Nm)(hp:Hp)(id g n i off:Nat):m_ true τ hp (.p id g n i off)=Ah true τ hp (.p id g n i off):=rfl
theorem afR(τ:Nm)(hp:Hp)(id g n i off:Nat):l8 true τ hp (.p id g n i off)=pg true τ hp (.p id g n i off):=rfl
theorem aeH(τ:Nm)(hp:Hp)(id g n i off:Nat):qO true τ hp (.p id g n i off)=cK (OB true τ hp) (.p id g n i off):=rfl
theorem aga(τ:Nm)(hp:Hp)(id g n i off:Nat):TK true τ hp (.p id g n i off)=(∀c∈AV.cells (.p id g n i off),m_ true τ hp c):=rfl
theorem anK(τ:Nm)(hp:Hp)(id g n i off:Nat):GB true τ hp (.p id g n i off)=(AV.cells (.p id g n i off)).flatMap (l8 true τ hp):=rfl
theorem afF(τ:Nm)(hp:Hp)(f:FuncId)(cs:List AV):OB true τ hp (.fn f cs)=.fn f (cs.map (gq true τ hp)):=rfl
theorem afo(τ:Nm)(hp:Hp)(f:FuncId)(cs:List AV):m_ true τ hp (.fn f cs)=(∀c∈cs,Ah true τ hp c):=rfl
theorem ash(τ:Nm)(hp:Hp)(f:FuncId)(cs:List AV):l8 true τ hp (.fn f cs)=cs.flatMap (pg true τ hp):=rfl
theorem adK(τ:Nm)(hp:Hp)(f:FuncId)(cs:List AV):qO true τ hp (.fn f cs)=cK (OB true τ hp) (.fn f cs):=rfl
theorem arp(τ:Nm)(hp:Hp)(f:FuncId)(cs:List AV):TK true τ hp (.fn f cs)=(∀c∈AV.cells (.fn f cs),m_ true τ hp c):=rfl
theorem amK(τ:Nm)(hp:Hp)(f:FuncId)(cs:List AV):GB true τ hp (.fn f cs)=(AV.cells (.fn f cs)).flatMap (l8 true τ hp):=rfl
theorem akI(τ:Nm)(hp:Hp)(cs:List AV):qO true τ hp (.agg cs)=cK (OB true τ hp) (.agg cs):=rfl
theorem aiu(τ:Nm)(hp:Hp)(cs:List AV):TK true τ hp (.agg cs)=(∀c∈AV.cells (.agg cs),m_ true τ hp c):=rfl
theorem apC(τ:Nm)(hp:Hp)(cs:List AV):GB true τ hp (.agg cs)=(AV.cells (.agg cs)).flatMap (l8 true τ hp):=rfl
theorem aqk(τ:Nm)(hp:Hp)(vs:List AV):qO true τ hp (.F1 vs)=.F1 (vs.map (fun v=>cK (OB true τ hp) v)):=rfl
theorem alo(τ:Nm)(hp:Hp)(vs:List AV):TK true τ hp (.F1 vs)=(∀v∈vs,∀c∈v.cells,m_ true τ hp c):=rfl
theorem anS(τ:Nm)(hp:Hp)(vs:List AV):GB true τ hp (.F1 vs)=(vs.flatMap fun v=>v.cells.flatMap (l8 true τ hp)):=rfl
theorem ajh(τ:Nm)(hp:Hp)(id g:Nat):gq true τ hp (.Ic id g)=(match lk τ id with|some (i',gi,ga)=>if g=ga then .Ic i' gi else .bad|none=>fz 4 hp (.Ic id g)):=rfl
theorem arV(τ:Nm)(hp:Hp)(id g:Nat):Ah true τ hp (.Ic id g)=(match lk τ id with|some (_,_,ga)=>g=ga|none=>Xa 4 hp (.Ic id g)):=rfl
theorem adj(τ:Nm)(hp:Hp)(id g:Nat):pg true τ hp (.Ic id g)=(match lk τ id with|some _=>[]|none=>qg 4 hp (.Ic id g)):=rfl
theorem am3(τ:Nm)(hp:Hp)(id g:Nat):OB true τ hp (.Ic id g)=gq true τ hp (.Ic id g):=rfl
theorem amc(τ:Nm)(hp:Hp)(id g:Nat):m_ true τ hp (.Ic id g)=Ah true τ hp (.Ic id g):=rfl
theorem adw(τ:Nm)(hp:Hp)(id g:Nat):l8 true τ hp (.Ic id g)=pg true τ hp (.Ic id g):=rfl
theorem aoE(τ:Nm)(hp:Hp)(v:Value):gq false τ hp (.lit v)=.lit v:=rfl
theorem apz(τ:Nm)(hp:Hp)(v:Value):Ah false τ hp (.lit v)=Xa 0 hp (.lit v):=rfl
theorem atf(τ:Nm)(hp:Hp)(v:Value):pg false τ hp (.lit v)=[]:=rfl
theorem ao7(τ:Nm)(hp:Hp)(v:Value):OB false τ hp (.lit v)=gq false τ hp (.lit v):=rfl
theorem ahs(τ:Nm)(hp:Hp)(v:Value):m_ false τ hp (.lit v)=Ah false τ hp (.lit v):=rfl
theorem abc(τ:Nm)(hp:Hp)(v:Value):l8 false τ hp (.lit v)=pg false τ hp (.lit v):=rfl
theorem ahx(τ:Nm)(hp:Hp)(v:Value):qO false τ hp (.lit v)=cK (OB false τ hp) (.lit v):=rfl
theorem aoO(τ:Nm)(hp:Hp)(v:Value):TK false τ hp (.lit v)=(∀c∈AV.cells (.lit v),m_ false τ hp c):=rfl
theorem aaS(τ:Nm)(hp:Hp)(v:Value):GB false τ hp (.lit v)=(AV.cells (.lit v)).flatMap (l8 false τ hp):=rfl
theorem amF(τ:Nm)(hp:Hp)(es:List AV)(b:Bool):gq false τ hp (.sl es b)=.sl es b:=rfl
theorem afw(τ:Nm)(hp:Hp)(es:List AV)(b:Bool):Ah false τ hp (.sl es b)=Xa 0 hp (.sl es b):=rfl
theorem akl(τ:Nm)(hp:Hp)(es:List AV)(b:Bool):pg false τ hp (.sl es b)=[]:=rfl
theorem ahO(τ:Nm)(hp:Hp)(es:List AV)(b:Bool):OB false τ hp (.sl es b)=gq false τ hp (.sl es b):=rfl
theorem aj2(τ:Nm)(hp:Hp)(es:List AV)(b:Bool):m_ false τ hp (.sl es b)=Ah false τ hp (.sl es b):=rfl
theorem ah3(τ:Nm)(hp:Hp)(es:List AV)(b:Bool):l8 false τ hp (.sl es b)=pg false τ hp (.sl es b):=rfl
theorem ahQ(τ:Nm)(hp:Hp)(es:List AV)(b:Bool):qO false τ hp (.sl es b)=cK (OB false τ hp) (.sl es b):=rfl
theorem aid(τ:Nm)(hp:Hp)(es:List AV)(b:Bool):TK false τ hp (.sl es b)=(∀c∈AV.cells (.sl es b),m_ false τ hp c):=rfl
theorem atP(τ:Nm)(hp:Hp)(es:List AV)(b:Bool):GB false τ hp (.sl es b)=(AV.cells (.sl es b)).flatMap (l8 false τ hp):=rfl
theorem afn(τ:Nm)(hp:Hp)(cs:List AV):gq false τ hp (.P cs)=.P cs:=rfl
theorem ar9(τ:Nm)(hp:Hp)(cs:List AV):Ah false τ hp (.P cs)=Xa 0 hp (.P cs):=rfl
theorem ap5(τ:Nm)(hp:Hp)(cs:List AV):pg false τ hp (.P cs)=[]:=rfl
theorem anF(τ:Nm)(hp:Hp)(cs:List AV):OB false τ hp (.P cs)=gq false τ hp (.P cs):=rfl
theorem apk(τ:Nm)(hp:Hp)(cs:List AV):m_ false τ hp (.P cs)=Ah false τ hp (.P cs):=rfl
theorem ada(τ:Nm)(hp:Hp)(cs:List AV):l8 false τ hp (.P cs)=pg false τ hp (.P cs):=rfl
theorem agD(τ:Nm)(hp:Hp)(cs:List AV):qO false τ hp (.P cs)=cK (OB false τ hp) (.P cs):=rfl
theorem adI(τ:Nm)(hp:Hp)(cs:List AV):GB false τ hp (.P cs)=(AV.cells (.P cs)).flatMap (l8 false τ hp):=rfl
theorem adv(τ:Nm)(hp:Hp)(id g off len:Nat):gq false τ hp (.l id g off len)=(match lk τ id with|some (i',gi,ga)=>if g=ga then .l i' gi off len else .bad|none=>fz 4 hp (.l id g off len)):=rfl
theorem aej(τ:Nm)(hp:Hp)(id g off len:Nat):Ah false τ hp (.l id g off len)=(match lk τ id with|some (_,_,ga)=>g=ga|none=>Xa 4 hp (.l id g off len)):=rfl
theorem agd(τ:Nm)(hp:Hp)(id g off len:Nat):pg false τ hp (.l id g off len)=(match lk τ id with|some _=>[]|none=>qg 4 hp (.l id g off len)):=rfl
theorem ab6(τ:Nm)(hp:Hp)(id g off len:Nat):OB false τ hp (.l id g off len)=gq false τ hp (.l id g off len):=rfl
theorem abk(τ:Nm)(hp:Hp)(id g off len:Nat):m_ false τ hp (.l id g off len)=Ah false τ hp (.l id g off len):=rfl
theorem ae1(τ:Nm)(hp:Hp)(id g off len:Nat):l8 false τ hp (.l id g off len)=pg false τ hp (.l id g off len):=rfl
theorem anr(τ:Nm)(hp:Hp)(id g off len:Nat):qO false τ hp (.l id g off len)=cK (OB false τ hp) (.l id g off len):=rfl
theorem ahR(τ:Nm)(hp:Hp)(id g off len:Nat):TK false τ hp (.l id g off len)=(∀c∈AV.cells (.l id g off len),m_ false τ hp c):=rfl
theorem ald(τ:Nm)(hp:Hp)(id g off len:Nat):GB false τ hp (.l id g off len)=(AV.cells (.l id g off len)).flatMap (l8 false τ hp):=rfl
theorem ab0(τ:Nm)(hp:Hp)(id g n i off:Nat):gq false τ hp (.p id g n i off)=(match lk τ id with|some (i',gi,ga)=>if g=ga then .p i' gi n i off else .bad|none=>fz 4 hp (.p id g n i off)):=rfl
theorem agV(τ:Nm)(hp:Hp)(id g n i off:Nat):Ah false τ hp (.p id g n i off)=(match lk τ id with|some (_,_,ga)=>g=ga|none=>Xa 4 hp (.p id g n i off)):=rfl
theorem ar3(τ:Nm)(hp:Hp)(id g n i off:Nat):pg false τ hp (.p id g n i off)=(match lk τ id with|some _=>[]|none=>qg 4 hp (.p id g n i off)):=rfl
theorem aoA(τ:Nm)(hp:Hp)(id g n i off:Nat):OB false τ hp (.p id g n i off)=gq false τ hp (.p id g n i off):=rfl
theorem afD(τ:Nm)(hp:Hp)(id g n i off:Nat):m_ false τ hp (.p id g n i off)=Ah false τ hp (.p id g n i off):=rfl
theorem aed(τ:Nm)(hp:Hp)(id g n i off:Nat):l8 false τ hp (.p id g n i off)=pg false τ hp (.p id g n i off):=rfl
theorem alI(τ:Nm)(hp:Hp)(id g n i off:Nat):qO false τ hp (.p id g n i off)=cK (OB false τ hp) (.p id g n i off):=rfl
theorem abW(τ:Nm)(hp:Hp)(id g n i off:Nat):TK false τ hp (.p id g n i off)=(∀c∈AV.cells (.p id g n i off),m_ false τ hp c):=rfl
theorem akg(τ:Nm)(hp:Hp)(id g n i off:Nat):GB false τ hp (.p id g n i off)=(AV.cells (.p id g n i off)).flatMap (l8 false τ hp):=rfl
theorem aiM(τ:Nm)(hp:Hp)(f:FuncId)(cs:List AV):OB false τ hp (.fn f cs)=.fn f (cs.map (gq false τ hp)):=rfl
theorem atm(τ:Nm)(hp:Hp)(f:FuncId)(cs:List AV):m_ false τ hp (.fn f cs)=(∀c∈cs,Ah false τ hp c):=rfl
theorem acX(τ:Nm)(hp:Hp)(f:FuncId)(cs:List AV):l8 false τ hp (.fn f cs)=cs.flatMap (pg false τ hp):=rfl
theorem aqL(τ:Nm)(hp:Hp)(f:FuncId)(cs:List AV):qO false τ hp (.fn f cs)=cK (OB false τ hp) (.fn f cs):=rfl
theorem acS(τ:Nm)(hp:Hp)(f:FuncId)(cs:List AV):TK false τ hp (.fn f cs)=(∀c∈AV.cells (.fn f cs),m_ false τ hp c):=rfl
theorem afv(τ:Nm)(hp:Hp)(f:FuncId)(cs:List AV):GB false τ hp (.fn f cs)=(AV.cells (.fn f cs)).flatMap (l8 false τ hp):=rfl
theorem arQ(τ:Nm)(hp:Hp)(cs:List AV):qO false τ hp (.agg cs)=cK (OB false τ hp) (.agg cs):=rfl
theorem akQ(τ:Nm)(hp:Hp)(cs:List AV):TK false τ hp (.agg cs)=(∀c∈AV.cells (.agg cs),m_ false τ hp c):=rfl
theorem afE(τ:Nm)(hp:Hp)(cs:List AV):GB false τ hp (.agg cs)=(AV.cells (.agg cs)).flatMap (l8 false τ hp):=rfl
theorem aa4(τ:Nm)(hp:Hp)(vs:List AV):qO false τ hp (.F1 vs)=.F1 (vs.map (fun v=>cK (OB false τ hp) v)):=rfl
theorem alD(τ:Nm)(hp:Hp)(vs:List AV):TK false τ hp (.F1 vs)=(∀v∈vs,∀c∈v.cells,m_ false τ hp c):=rfl
theorem adH(τ:Nm)(hp:Hp)(vs:List AV):GB false τ hp (.F1 vs)=(vs.flatMap fun v=>v.cells.flatMap (l8 false τ hp)):=rfl
theorem atl(τ:Nm)(hp:Hp)(id g:Nat):gq false τ hp (.Ic id g)=(match lk τ id with|some (i',gi,ga)=>if g=ga then .Ic i' gi else .bad|none=>fz 4 hp (.Ic id g)):=rfl
theorem atH(τ:Nm)(hp:Hp)(id g:Nat):Ah false τ hp (.Ic id g)=(match lk τ id with|some (_,_,ga)=>g=ga|none=>Xa 4 hp (.Ic id g)):=rfl
theorem amz(τ:Nm)(hp:Hp)(id g:Nat):pg false τ hp (.Ic id g)=(match lk τ id with|some _=>[]|none=>qg 4 hp (.Ic id g)):=rfl
theorem akM(τ:Nm)(hp:Hp)(id g:Nat):OB false τ hp (.Ic id g)=gq false τ hp (.Ic id g):=rfl
theorem ahw(τ:Nm)(hp:Hp)(id g:Nat):m_ false τ hp (.Ic id g)=Ah false τ hp (.Ic id g):=rfl
theorem agm(τ:Nm)(hp:Hp)(id g:Nat):l8 false τ hp (.Ic id g)=pg false τ hp (.Ic id g):=rfl
theorem al2(L:List Nat)(v:Value):mj true L (.lit v)=True:=sR
theorem agG(L:List Nat)(v:Value):kU true L (.lit v)=(∀c∈AV.cells (.lit v),mj true L c):=rfl
theorem ahS(L:List Nat)(id g off len:Nat):mj true L (.l id g off len)=(id∈L):=sR
theorem anc(L:List Nat)(id g off len:Nat):kU true L (.l id g off len)=(∀c∈AV.cells (.l id g off len),mj true L c):=rfl
theorem amm(L:List Nat)(cs:List AV):kU true L (.agg cs)=(∀c∈AV.cells (.agg cs),mj true L c):=rfl
theorem agN(L:List Nat)(vs:List AV):kU true L (.F1 vs)=(∀v∈vs,∀c∈v.cells,mj true L c):=rfl
theorem asQ(L:List Nat)(v:Value):mj false L (.lit v)=True:=sR
theorem ahc(L:List Nat)(v:Value):kU false L (.lit v)=(∀c∈AV.cells (.lit v),mj false L c):=rfl
theorem ahC(L:List Nat)(es:List AV)(b:Bool):mj false L (.sl es b)=True:=sR
theorem akh(L:List Nat)(es:List AV)(b:Bool):kU false L (.sl es b)=(∀c∈AV.cells (.sl es b),mj false L c):=rfl
theorem alU(L:List Nat)(cs:List AV):mj false L (.P cs)=True:=sR
theorem anq(L:List Nat)(id g off len:Nat):mj false L (.l id g off len)=(id∈L):=sR
theorem ap8(L:List Nat)(id g off len:Nat):kU false L (.l id g off len)=(∀c∈AV.cells (.l id g off len),mj false L c):=rfl
theorem adi(L:List Nat)(id g n i off:Nat):mj false L (.p id g n i off)=(id∈L):=sR
theorem ahi(L:List Nat)(id g n i off:Nat):kU false L (.p id g n i off)=(∀c∈AV.cells (.p id g n i off),mj false L c):=rfl
theorem aiL(L:List Nat)(f:FuncId)(cs:List AV):mj false L (.fn f cs)=(∀c∈cs,match c with| .l id _ _ _=>id∈L| .p id _ _ _ _=>id∈L| .lit _| .sl _ _| .P _| .gl _=>True|_=>False):=propext ⟨fun h=>h.2,fun h=>⟨rfl,h⟩⟩
theorem apN(L:List Nat)(f:FuncId)(cs:List AV):kU false L (.fn f cs)=(∀c∈AV.cells (.fn f cs),mj false L c):=rfl
theorem anB(L:List Nat)(cs:List AV):kU false L (.agg cs)=(∀c∈AV.cells (.agg cs),mj false L c):=rfl
theorem adB(L:List Nat)(vs:List AV):kU false L (.F1 vs)=(∀v∈vs,∀c∈v.cells,mj false L c):=rfl
theorem aiU(L:List Nat)(id g:Nat):mj false L (.Ic id g)=(id∈L):=sR
theorem apn(k':Bool)(L:List Nat)(t k:Nat)(es:List AV):lr k' L (.own t k es)=(∀e∈es,∀c∈e.cells,mj k' L c):=rfl
theorem alu(k':Bool)(L:List Nat)(cs:List AV):lr k' L (.box cs)=(∀c∈cs,mj k' L c):=rfl
theorem aqw(k':Bool)(L:List Nat)(es:List (ByteArray×AV)):lr k' L (.ms es)=IC es:=rfl
theorem aa0(k':Bool)(L:List Nat):FP k' L []=True:=rfl
theorem aqH(k':Bool)(L:List Nat)(i g:Nat)(ob:Ob)(h:Hp):FP k' L ((i,some (g,ob))::h)=(lr k' L ob/\FP k' L h):=rfl
theorem af7(n:Nat):Cb (.tmp n)=false:=rfl
theorem ant(k:IntKind)(n:Int):Cb (.const (.int k n))=false:=rfl
theorem anX(s:ByteArray):Cb (.const (.string s))=false:=rfl
theorem ad0:Cb (.const (.slice none 0 0))=true:=rfl
theorem adV(n:Nat):K4 (.tmp n)=false:=rfl
theorem asi(k:IntKind)(n:Int):K4 (.const (.int k n))=false:=rfl
theorem aif(s:ByteArray):K4 (.const (.string s))=false:=rfl
theorem ady(a:Option Addr)(n m:Nat):K4 (.const (.slice a n m))=false:=rfl
theorem aee(op:BinOp)(ti:TI)(x:AV)(r:R):Bp false op ti x r=r:=rfl
theorem arR(op:BinOp)(ti:TI)(x y:AV):gW false op ti x y=l9 op ti x y:=rfl
theorem aho(ti:TI)(es:List AV)(f:Bool)(y:AV):gW true .eql ti (.sl es f) y=(match ti.ty with| .slice _=>.val (0<es.length) (.lit (.bool false))|_=>.no):=by unfold gW;cases ti.ty<;>rfl
theorem asP(T:vp)(n:Nat):Hm T (.gl n)=(match Sb T.gl n with|some cs=>.P cs|none=>.gl n):=rfl
theorem ai3(T:vp)(es:List AV)(b:Bool):Hm T (.sl es b)=.sl es b:=rfl
theorem ad2(T:vp)(cs:List AV):Hm T (.P cs)=.P cs:=rfl
theorem ajS(T:vp)(id g off len:Nat):Hm T (.l id g off len)=.l id g off len:=rfl
theorem aj5(T:vp)(id g n i off:Nat):Hm T (.p id g n i off)=.p id g n i off:=rfl
theorem aqX(off:Nat)(u:AV)(t k:Nat)(es:List AV):Zt (.Rc t k es) off u=u:=rfl
theorem an5(off:Nat)(u:AV)(cs:List AV):Zt (.agg cs) off u=.agg (cs.set off u):=rfl
theorem asD{es:List AV}(h:PE es)(hp:Hp):es.map (cK (fz 0 hp))=es:=h.fz 0 hp
theorem agE{es:List AV}(h:PE es)(hp:Hp):(∀e∈es,∀c∈e.cells,Xa 0 hp c)=True:=Ie (h.Xa 0 hp)
theorem ac3{es:List AV}(h:PE es)(hp:Hp):es.map (cK (fz 3 hp))=es:=h.fz 3 hp
theorem aiY{es:List AV}(h:PE es)(hp:Hp):(∀e∈es,∀c∈e.cells,Xa 3 hp c)=True:=Ie (h.Xa 3 hp)
theorem aib{es:List AV}(h:PE es)(hp:Hp):(es.flatMap fun e=>e.cells.flatMap (qg 3 hp))=[]:=h.qg 3 hp
theorem afQ{es:List AV}(h:PE es)(hp:Hp):es.map (cK (vZ hp))=es:=h.vZ hp
theorem aju{es:List AV}(h:PE es)(hp:Hp):(∀e∈es,∀c∈e.cells,Kr hp c)=True:=Ie (h.Kr hp)
theorem acB{es:List AV}(h:PE es):uo es=[]:=h.uo
theorem arj{es:List AV}(h:PE es)(τ:Nm)(hp:Hp):es.map (cK (GV true τ hp))=es:=h.GV true τ hp
theorem arP{es:List AV}(h:PE es)(τ:Nm)(hp:Hp):(∀e∈es,∀c∈e.cells,MO true τ hp c)=True:=Ie (h.MO true τ hp)
theorem aoP{es:List AV}(h:PE es)(τ:Nm)(hp:Hp):(es.flatMap fun e=>e.cells.flatMap (AB true τ hp))=[]:=h.AB true τ hp
theorem adR{es:List AV}(h:PE es)(τ:Nm)(hp:Hp):es.map (cK (GV false τ hp))=es:=h.GV false τ hp
theorem aup{es:List AV}(h:PE es)(τ:Nm)(hp:Hp):(∀e∈es,∀c∈e.cells,MO false τ hp c)=True:=Ie (h.MO false τ hp)
theorem aa8{es:List AV}(h:PE es)(τ:Nm)(hp:Hp):(es.flatMap fun e=>e.cells.flatMap (AB false τ hp))=[]:=h.AB false τ hp
theorem ao2{es:List AV}(h:PE es)(L:List Nat):(∀e∈es,∀c∈e.cells,mj false L c)=True:=Ie (h.tr L)
theorem ah5(e:AV)(es:List AV):uo (e::es)=e.cells.flatMap JR++uo es:=rfl
def au6(l:List Int):(∀e∈tk l,∀c∈e.cells,AT c)=True:=by refine Ie fun e he c hc=>?_;simp only[tk,A2]at he;obtain⟨x,_,rfl⟩:=he;simp only[AV.cells,iT]at hc;subst hc;trivial
theorem ahm(L:List Nat)(l:List Int):(∀e∈tk l,∀c∈e.cells,mj true L c)=True:=by refine Ie fun e he c hc=>?_;simp only[tk,A2]at he;obtain⟨x,_,rfl⟩:=he;simp only[AV.cells,iT]at hc;subst hc;trivial
theorem aa6:HY 0 []=true:=rfl
theorem afM(x0:Operand):HY 1 [(0,x0)]=true:=rfl
theorem ah1(x0 x1:Operand):HY 2 [(0,x0),(1,x1)]=true:=rfl
theorem amR(x0 x1 x2:Operand):HY 3 [(0,x0),(1,x1),(2,x2)]=true:=rfl
theorem amU(x0 x1 x2 x3:Operand):HY 4 [(0,x0),(1,x1),(2,x2),(3,x3)]=true:=rfl
theorem ak1(x0 x1 x2 x3 x4:Operand):HY 5 [(0,x0),(1,x1),(2,x2),(3,x3),(4,x4)]=true:=rfl
theorem all_cons{α:Type}{p:α->Prop}{x:α}{l:List α}:(∀y∈x::l,p y)=(p x/\∀y∈l,p y):=sM
theorem tQ{α:Type}{p:α->Prop}:(∀y∈([]:List α),p y)=True:=sM
theorem aiS{a b:Nat}{l:List Nat}:(a∈b::l)=(a=b\/a∈l):=sM
theorem adL{a:Nat}:(a∈([]:List Nat))=False:=sM
theorem aqn{l:List Int}:(∀y∈tk l,y.cells.length=1)=True:=Ie ap4
theorem ac4{α:Type}{p:α->Prop}{l r:List α}:(∀y∈l++r,p y)=((∀y∈l,p y)/\∀y∈r,p y):=by
 apply propext;simp only[ym];constructor
 .intro h;exact⟨fun y hy=>h y (.inl hy),fun y hy=>h y (.inr hy)⟩
 rintro⟨h1,h2⟩ y (hy|hy)
 .exact h1 y hy
 exact h2 y hy
theorem amP:PE []=True:=Ie apD
theorem aff(l:List Int):PE (tk l)=True:=Ie (aix l)
theorem adT(v:Value):PC (.lit v)=True:=rfl
theorem amp(es:List AV):PC (.sl es false)=True:=Ie rfl
theorem aja(e:AV)(es:List AV):PE (e::es)=((∀c∈e.cells,PC c)/\PE es):=propext acI
theorem anZ(es fs:List AV):PE (es++fs)=(PE es/\PE fs):=propext akc
theorem ints_set{l:List Int}{j:Nat}{v:Int}:(tk l).set j (.lit (.int .i64 v))=tk (l.set j v):=by simp[tk,Hv,I]
theorem afG{l:List Int}{v:Int}:tk l++[.lit (.int .i64 v)]=tk (l++[v]):=by simp[tk]
def Bu{l:List Int}{n:Nat}:(tk l).drop n=tk (l.drop n):=by simp[tk]
def yW{l:List Int}{n:Nat}:(tk l).take n=tk (l.take n):=by simp[tk]
section
variable{C:Cx}{T:vp}{s:St}{r:AV}
def fx{id:Nat}{l:List Oper}{Q:Exit->St->Prop}(hC:PT C T)(hm:C.P.follows .mixedOrders=true)(hs:oe l=true)(hd:(l.all fun o=>decide (o.dst.getD 0<C.N))=true)(h:∀K:St->Prop,(∀s',Q .normal s'->K s')->zm C.P T l l s [] (fun s' rs=>J6 (yc l []) rs=true/\K s')):Ex C (.region id l.toArray true) Q s:=
 Qf hC hm hs hd h
def JB{c:Operand}{x y:Code}{Q:Exit->St->Prop}(hc:s.ev c=.lit (.bool true))(ht:Ex C x Q s):Ex C (.cond c x y) Q s:=
 rV true hc (fun _=>ht) (fun h=>C3)
def bj{c:Operand}{x y:Code}{Q:Exit->St->Prop}(hc:s.ev c=.lit (.bool false))(ht:Ex C y Q s):Ex C (.cond c x y) Q s:=
 rV false hc (fun h=>C3) (fun _=>ht)
def aas:Xk []:=⟨oQ,oQ⟩
def SY{a:Nat}(h1:TK true [] s.hp (L5 s.tm a))(h2:qO true [] s.hp (L5 s.tm a)=r):∃σ D,Nu T [.tmp a] σ D [] r s:=
 ⟨[],_,trivial,aas,nofun,trivial,nofun,h1,fun _ h=>h,fun _ _=>rfl,h2,rfl⟩
def oK{rs:List ResultVar}(h0:(e_ T s rs).1)(h1:TK true [] s.hp (e_ T s rs).2)(h2:qO true [] s.hp (e_ T s rs).2=r):∃σ D,Nu T rs σ D [] r s:=
 ⟨[],_,h0,aas,nofun,trivial,nofun,h1,fun _ h=>h,fun _ _=>rfl,h2,rfl⟩
def Me{rs:List ResultVar}{hp':Hp}(σ:Nm)(h0:(e_ T s rs).1)(rN:(σ.map (·.1)).Nodup)(Vc:(σ.map (·.2.2.1)).Nodup)(hg:∀q∈σ,(q.2.1=0/\q.2.2.1=q.1/\q.2.2.2=0)\/q.2.1=1)(hP:Dg true σ s.hp σ)(h1:TK true σ s.hp (e_ T s rs).2)(hd:∀d∈N_ true σ s.hp σ++GB true σ s.hp (e_ T s rs).2,lk σ d=none)(h2:qO true σ s.hp (e_ T s rs).2=r)(h3:yO true σ s.hp=hp'):∃σ D,Nu T rs σ D hp' r s:=
 ⟨σ,_,h0,⟨rN,Vc⟩,hg,hP,fun _ h=>XI _ h,h1,fun _ h=>mO _ h,hd,h2,h3⟩
section
variable{P:Program}{f:FuncId}{g:Nat}{hp:Hp}{vs:List AV}{rc:AV}{K:AV->List Up->List Nat->Prop}
def J3(τ:Nm)(hp:Hp):List AV->Prop
 |[]=>True|v::vs=>TK true τ hp v/\J3 τ hp vs
theorem J3.all{τ:Nm}{hp:Hp}:∀{vs:List AV},J3 τ hp vs->∀v∈vs,TK true τ hp v
 |[],_,v,hv=>by cases hv
 |u::us,h,v,hv=>by
  rcases rX.1 hv with rfl|hv
  .exact h.1
  exact J3.all h.2 v hv
def jL(τ σ:Nm)(keep:Bool){hp1:Hp}(rN:(τ.map (·.1)).Nodup)(Vc:(τ.map (·.2.2.1)).Nodup)(hg:∀q∈τ,q.2.1=0)(hP:Dg true τ hp τ)(hs:J3 τ hp vs)(hd:∀d∈N_ true τ hp τ++vs.flatMap (GB true τ hp),lk τ d=none)(h:UB P T f (yO true τ hp) (vs.map (qO true τ hp)) hp1 rc)(iE:(σ.map (·.1)).Nodup)(qf:(σ.map (·.2.2.1)).Nodup)(BI:∀q∈σ,(q.2.2.2=0/\(q.2.2.1,0,q.1,q.2.1)∈τ)\/(q.2.2.2=1/\q.2.1=g))(LB:Dg false σ hp1 σ)(NJ:N_ false σ hp1 σ=[])(XH:TK false σ hp1 rc)(Te:GB false σ hp1 rc=[])(Ll:FP keep (xG τ σ (N_ true τ hp τ++vs.flatMap (GB true τ hp)) keep) (yO false σ hp1))(tM:kU keep (xG τ σ (N_ true τ hp τ++vs.flatMap (GB true τ hp)) keep) (qO false σ hp1 rc))(hK:K (qO false σ hp1 rc) (yO false σ hp1++qq ((xG τ σ (N_ true τ hp τ++vs.flatMap (GB true τ hp)) keep).filter fun i=>!(σ.map (·.1)).contains i)) (τ.map (·.2.2.1)++(N_ true τ hp τ++vs.flatMap (GB true τ hp)))):J8 P T f g hp vs K:=
 ⟨τ,σ,_,keep,hp1,rc,⟨⟨rN,Vc⟩,hg,hP,fun _ h=>XI _ h,hs.all,fun v hv d hd=>mO _ (CJ.2 ⟨v,hv,hd⟩),hd,h,⟨iE,qf⟩,BI,LB,
  fun d hd=>(by rw[NJ]at hd;cases hd),XH,fun d hd=>(by rw[Te]at hd;cases hd),Ll,tM⟩,hK⟩
def oj(hs:J3 [] hp vs)(h:UB P T f [] (vs.map (qO true [] hp)) [] rc)(XH:TK false [] [] rc)(Te:GB false [] [] rc=[])(ht:kU true [] (qO false [] [] rc))(hK:K (qO false [] [] rc) [] (vs.flatMap (GB true [] hp))):J8 P T f g hp vs K:=
 jL [] [] true oQ oQ nofun trivial hs (fun _ _=>rfl) h oQ oQ nofun trivial rfl XH Te trivial ht hK
def aqB(l:List Nat):(l.filter fun i=>!([]:List Nat).contains i)=l:=sM
def EY(hs:J3 [] hp vs)(h:UB P T f [] (vs.map (qO true [] hp)) [] rc)(XH:TK false [] [] rc)(Te:GB false [] [] rc=[])(ht:kU false (vs.flatMap (GB true [] hp)) (qO false [] [] rc))(hK:K (qO false [] [] rc) (qq (vs.flatMap (GB true [] hp))) (vs.flatMap (GB true [] hp))):J8 P T f g hp vs K:=
 jL [] [] false oQ oQ nofun trivial hs (fun _ _=>rfl) h oQ oQ nofun trivial rfl XH Te trivial ht (by
  have e1:(xG [] [] (N_ true [] hp []++vs.flatMap (GB true [] hp)) false).filter (fun i=>!(([]:Nm).map (·.1)).contains i)=vs.flatMap (GB true [] hp):=aqB _;rw[e1];exact hK)
def ZI{id ga:Nat}{cs F8:List AV}(hg:hp.get id=some (ga,.box cs))(h:UB P T f [(0,some (0,.box (cs.map (OB true [(0,0,id,ga)] hp))))] (.p 0 0 0 0 0::vs.map (qO true [(0,0,id,ga)] hp)) [(0,some (0,.box F8))] rc)(hs:(∀c∈cs,m_ true [(0,0,id,ga)] hp c)/\J3 [(0,0,id,ga)] hp vs)(hd:∀d∈cs.flatMap (l8 true [(0,0,id,ga)] hp)++vs.flatMap (GB true [(0,0,id,ga)] hp),id≠d)(hb:(∀c∈F8,m_ false [(id,ga,0,0)] [(0,some (0,.box F8))] c)/\TK false [(id,ga,0,0)] [(0,some (0,.box F8))] rc)(hr:F8.flatMap (l8 false [(id,ga,0,0)] [(0,some (0,.box F8))])=[]/\GB false [(id,ga,0,0)] [(0,some (0,.box F8))] rc=[])(ht:(∀c∈F8.map (OB false [(id,ga,0,0)] [(0,some (0,.box F8))]),mj false [id] c)/\kU false [id] (qO false [(id,ga,0,0)] [(0,some (0,.box F8))] rc))(hK:K (qO false [(id,ga,0,0)] [(0,some (0,.box F8))] rc) ((id,some (ga,.box (F8.map (OB false [(id,ga,0,0)] [(0,some (0,.box F8))]))))::qq (cs.flatMap (l8 true [(0,0,id,ga)] hp)++vs.flatMap (GB true [(0,0,id,ga)] hp)))
   (id::(cs.flatMap (l8 true [(0,0,id,ga)] hp)++vs.flatMap (GB true [(0,0,id,ga)] hp)))):J8 P T f g hp (.p id ga 0 0 0::vs) K:=by
 have e1:N_ true [(0,0,id,ga)] hp [(0,0,id,ga)]=cs.flatMap (l8 true [(0,0,id,ga)] hp):=HT;have e2:GB true [(0,0,id,ga)] hp (.p id ga 0 0 0)=[]:=by simp[GB,y_,AV.cells,l8,pg,lk]
 have e3:qO true [(0,0,id,ga)] hp (.p id ga 0 0 0)=.p 0 0 0 0 0:=by simp[qO,C5,cK,OB,gq,lk]
 have e4:yO true [(0,0,id,ga)] hp=[(0,some (0,.box (cs.map (OB true [(0,0,id,ga)] hp))))]:=by simp[yO,hg,Ds]
 have e5:yO false [(id,ga,0,0)] [(0,some (0,.box F8))]=[(id,some (ga,.box (F8.map (OB false [(id,ga,0,0)] [(0,some (0,.box F8))]))))]:=by simp[yO,Hp.get,Ds]
 have e6:N_ false [(id,ga,0,0)] [(0,some (0,.box F8))] [(id,ga,0,0)]=[]:=by simp only[N_,Hp.get,ql,rZ,hr.1,MP]
 generalize hD:cs.flatMap (l8 true [(0,0,id,ga)] hp)++vs.flatMap (GB true [(0,0,id,ga)] hp)=D at hd hK;have e7:N_ true [(0,0,id,ga)] hp [(0,0,id,ga)]++(AV.p id ga 0 0 0::vs).flatMap (GB true [(0,0,id,ga)] hp)=D:=by rw[kA,e1,e2,fj,hD]
 have e8:(xG [(0,0,id,ga)] [(id,ga,0,0)] D false).filter (fun i=>!(([(id,ga,0,0)]:Nm).map (·.1)).contains i)=D:=by
  simp only[xG,b_,FV,C9,j4,Mb,fj];have h1:∀d∈D,(!([id]:List Nat).contains d)=true:=fun d Uh=>by have:=hd d Uh;simp[FX this]
  simp only[XL];rw[jl.2 h1];simp
 have tmono:∀c,mj false [id] c->mj false (xG [(0,0,id,ga)] [(id,ga,0,0)] D false) c:=by
  have hm:∀x,x∈[id]->x∈xG [(0,0,id,ga)] [(id,ga,0,0)] D false:=fun x hx=>by simp only[iT]at hx;subst hx;simp[xG]
  intro c h;cases c with
  |l=>exact hm _ h|p=>exact hm _ h|Ic=>exact hm _ h|fn f cs=>
   refine⟨rfl,fun c hc=>?_⟩;have:=h.2 c hc;cases c with
   |l=>exact hm _ this|p=>exact hm _ this|_=>exact this
  |_=>exact h
 refine jL [(0,0,id,ga)] [(id,ga,0,0)] false (hp1:=[(0,some (0,.box F8))]) sM sM sM ?_ ?_ ?_ ?_ sM sM sM ?_ e6 hb.2 hr.2 ?_ ?_ ?_
 .simp only[Dg,hg,Lf,iG,ul];exact hs.1
 .refine⟨?_,hs.2⟩;simp[TK,Fj,AV.cells,m_,Ah,lk]
 .rw[e7];intro d Uh;simp only[lk,iN (hd d Uh)]
 .rw[e4,b_,e3];exact h
 .simp only[Dg,Hp.get,ql,Lf,iG,ul];exact hb.1
 .rw[e7,e5];refine⟨fun c hc=>tmono c (ht.1 c hc),trivial⟩
 .rw[e7];have h2:=ht.2;generalize qO false [(id,ga,0,0)] [(0,some (0,Ob.box F8))] rc=v at h2;cases v with
  |F1 vs=>exact fun u hu c hc=>tmono c (h2 u hu c hc)|_=>exact fun c hc=>tmono c (h2 c hc)
 rw[e7,e5,e8];exact hK
def lO{a:Nat}{cs F8:List AV}(hg:s.hp.get 0=some (0,.box cs))(h1:(∀c∈cs,m_ true [(0,0,0,0)] s.hp c)/\TK true [(0,0,0,0)] s.hp (L5 s.tm a))(hd:∀d∈cs.flatMap (l8 true [(0,0,0,0)] s.hp)++GB true [(0,0,0,0)] s.hp (L5 s.tm a),0≠d)(h2:qO true [(0,0,0,0)] s.hp (L5 s.tm a)=r)(h3:cs.map (OB true [(0,0,0,0)] s.hp)=F8):
  ∃σ D,Nu T [.tmp a] σ D [(0,some (0,.box F8))] r s:=by
 have e1:N_ true [(0,0,0,0)] s.hp [(0,0,0,0)]=cs.flatMap (l8 true [(0,0,0,0)] s.hp):=HT;have e4:yO true [(0,0,0,0)] s.hp=[(0,some (0,.box (cs.map (OB true [(0,0,0,0)] s.hp))))]:=by simp[yO,hg,Ds]
 refine Me [(0,0,0,0)] trivial sM sM sM ?_ h1.2 ?_ h2 (by rw[e4,h3])
 .simp only[Dg,hg,Lf,iG,ul];exact h1.1
 rw[e1];intro d Uh;have:=hd d Uh;simp only[lk,iN this]
end
end
attribute [go_sem] acL acW aou aow apO anp ain acf aqI apU ae6 af3 aqZ aki akF alw atw abB alA ajJ ahA alZ asv adP arb ad6 apG ajP aq3 asH aru ads aeZ atn adX afZ aoT aiG aeB atU adC amL atY aiw aii asK aaZ aoU ahp aeM ait acA aip adF ark aaQ afC aaU aqW aqr abZ ar5 am4 acv aiQ ahP as5 ar2 aew arT afp abI al8 ag1 amC ags at6 aer aun akJ am8 al9 amb alC aty abp asy apQ ajj ahL afI ak4 aaT arY apu akV ac6 am9 afi ao1 acV aj9 ahX ai7 aco am7 ajA amJ ama aqO apE as2 aoL aod aqV auo ag3 ahM atF at2 abC ap0 atS ab4 aj3 aa2 aoC afR aeH aga anK afF afo ash adK arp amK akI aiu apC aqk alo anS ajh arV adj am3 amc adw aoE apz atf ao7 ahs abc ahx aoO aaS amF afw akl ahO aj2 ah3 ahQ aid atP afn ar9 ap5 anF apk ada agD adI adv aej agd ab6 abk ae1 anr ahR ald ab0 agV ar3 aoA afD aed alI abW akg aiM atm acX aqL acS afv arQ akQ afE aa4 alD adH atl atH amz akM ahw agm al2 agG ahS anc amm agN asQ ahc ahC akh alU anq ap8 adi ahi aiL apN anB adB aiU apn alu aqw aa0 aqH af7 ant anX ad0 adV asi aif ady aee arR aho asP ai3 ad2 ajS aj5 aqX an5 asD agE ac3 aiY aib afQ aju acB arj arP aoP adR aup aa8 ao2 ah5 ahm aa6 afM ah1 amR amU ak1 aiS adL rq pF aqn ac4 amP aff adT amp aja anZ ints_set afG
attribute [go_sem ↓] all_cons tQ
attribute [go_sem] all_cons tQ
open Go
attribute [go_sem] UL TI.OR ZC.val ER vw q_ pQ Da zI IT YP mJ Mm Xq ah4 ahE aox acQ anJ aui apF Cv XE V7 Jc sV Bool.false_or ao4 Pp aW amg aiv afL aaN aro abi abq adp afa adh asT ahF asw agR agu anl akn ana aiy abX amQ aoK anj ajT abA ajH aky atI ar6 ae3 ahU amd aqK apm agk aoZ ajn atM acj ag2 asW anz ahH arU apv ang aev aj8 aq0 afH al7 aeF atL ahJ amx aol alz apg agl arN adW aku asu apR ajy ak3 aez Mm Xq pz ER vw q_ pQ Da zI IT YP mJ qq pz R.val L5 Value.oneCell' l9 S7 Vs yC FB YJ Ix sW b6 Ey pb YU F2 ta sX Sym.elemOf P3 D9 gZ dc nL B4 Hp.get Hp.has lk Sb TG Ht AI rL fY jw Option.getD_none iD C8 Dh dO N9 E3 Ek VG b_ FV kA List.flatMap_nil MP fj tc Mb lR ql j4 ul iG C9 not_false_eq_true not_true_eq_false eq_self nP afA Mv rA dS Td RH dR List.drop_nil dq cy aA me Y5 RB List.length_range su aL ro Xi LJ ZC.av Wj FA ID J3
open Go Go.Great
theorem tS{P:Program}{T:vp}{o:Oper}{s:St}{K:St->Prop}{K':AV->List Up->List Nat->Prop}(h:dQ P T o s K)(hK:∀v z7 acc,K (s.put o.dst v z7)->K' v z7 acc):Yl P T o s K':=by
 unfold dQ at h;unfold Yl;split at h
 .rename_i f args at_ heq;first|(rw[heq];simp only)|skip
  split at h
  .rename_i fid vs hf;obtain⟨τ,σ,D,keep,hp1,rc,h1,h2⟩:=h;have ir:mL (s.ev f) (args.toList.map s.ev)=some (fid,vs):=by simpa[rA] using hf
   rw[ir];exact⟨τ,σ,D,keep,hp1,rc,h1,hK _ _ _ h2⟩
  exact h.elim
 rename_i SO;first
 |exact⟨h.1,hK _ _ _ h.2⟩
 |(split
   ·rename_i f args at_ heq;exact(SO _ _ _ heq).elim
   exact⟨h.1,hK _ _ _ h.2⟩)
def Ts:List zy->Nat
 |[]=>0|r::rs=>r.1.length+Ts rs
theorem aaB:∀{rs:List zy},Ts rs=0->rs.all (fun r=>r.1.isEmpty)=true
 |[],_=>rfl|r::rs,h=>by simp only[Ts]at h;rw[List.all_cons,aaB oM];simp[show r.1=[] from EH.1 oM]
def XD(s:St)(d:Option Nat)(v:AV)(z7:List Up):(s.put d v z7).hp.length=z7.length+s.hp.length:=by simp[St.put]
theorem Zg{P:Program}{T:vp}{all:List Oper}{K:St->Prop}:∀(So:List Oper)(s:St)(K':St->List zy->Prop),aa P T all So s K->
  (∀s' rs,s'.hp.length=s.hp.length+Ts rs->K s'->K' s' rs)->Xm P T all So s K'
 |[],s,K',h,hK=>hK s [] rfl h|o::So,s,K',h,hK=>by
  unfold aa at h;unfold Xm;have step:∀v z7 (acc:List Nat),aa P T all So (s.put o.dst v z7) K->Xm P T all So (s.put o.dst v z7) fun s' rs=>K' s' ((z7.map (·.1),acc)::rs):=fun v z7 acc h'=>
   Zg So _ _ h' fun s' rs h1 h2=>hK s' _ (by rw[h1,XD];simp[Ts];omega) h2
  cases hg:o.guard with
  |none=>rw[hg]at h;exact tS h step|some q=>
   obtain⟨j,want⟩:=q;rw[hg]at h;simp only[GM]at h ⊢;split at h
   .rename_i b heq;exact⟨fun hb=>tS (h.1 hb) step,fun hb=>Zg So _ _ (h.2 hb) fun s' rs h1 h2=>hK s' _ (by rw[h1,XD];simp[Ts]) h2⟩
   .rename_i heq;exact Zg So _ _ h fun s' rs h1 h2=>hK s' _ (by rw[h1,XD];simp[Ts]) h2
   exact h.elim
def rW{C:Cx}{T:vp}{id:Nat}{l:List Oper}{Q:Exit->St->Prop}{s:St}(hC:PT C T)(hm:C.P.follows .mixedOrders=true)(hs:oe l=true)(hd:(l.all fun o=>decide (o.dst.getD 0<C.N))=true)(h:∀K:St->Prop,(∀s',Q .normal s'->K s')->aa C.P T l l s (fun s'=>s'.hp.length=s.hp.length/\K s')):Ex C (.region id l.toArray true) Q s:=
 Qf hC hm hs hd fun K hK=>Zg l s _ (h K hK) fun s' rs h1 ⟨h2,h3⟩=>⟨by
  unfold J6;rw[aaB oM,Aa],h3⟩
open Go
theorem JP{C:Cx}{ι:Type}{c d:Code}{Q:Exit->St->Prop}{s:St}(inv:ι->St)(ok:ι->Prop)(h1:Ex C c (AI (fun s'=>∃i,ok i/\Kd s' (inv i)) Q) s)(h2:∀i,ok i->Ex C d Q (inv i)):Ex C c (AI (Ex C d Q) Q) s:=by
 refine ii h1 fun e s' h=>?_;cases e with
 |normal=>obtain⟨i,hi,hw⟩:=h;exact AR hw (h2 i hi)
 |_=>exact h
open Go
section
variable{T:vp}{s:St}{r:AV}
def AK{rs:List ResultVar}{cs F8:List AV}(h0:(e_ T s rs).1)(hg:s.hp.get 0=some (0,.box cs))(h1:(∀c∈cs,m_ true [(0,0,0,0)] s.hp c)/\TK true [(0,0,0,0)] s.hp (e_ T s rs).2)(hd:∀d∈cs.flatMap (l8 true [(0,0,0,0)] s.hp)++GB true [(0,0,0,0)] s.hp (e_ T s rs).2,0≠d)(h2:qO true [(0,0,0,0)] s.hp (e_ T s rs).2=r)(h3:cs.map (OB true [(0,0,0,0)] s.hp)=F8):
  ∃σ D,Nu T rs σ D [(0,some (0,.box F8))] r s:=by
 have e1:N_ true [(0,0,0,0)] s.hp [(0,0,0,0)]=cs.flatMap (l8 true [(0,0,0,0)] s.hp):=HT;have e4:yO true [(0,0,0,0)] s.hp=[(0,some (0,.box (cs.map (OB true [(0,0,0,0)] s.hp))))]:=by simp[yO,hg,Ds]
 refine Me [(0,0,0,0)] h0 sM sM sM ?_ h1.2 ?_ h2 (by rw[e4,h3])
 .simp only[Dg,hg,Lf,iG,ul];exact h1.1
 rw[e1];intro d Uh;have:=hd d Uh;simp only[lk,iN this]
end
inductive BW(hp hp':Hp):List AV->List AV->Prop
 |nil:BW hp hp' [] []|same {c:AV} {cs F8:List AV}:BW hp hp' cs F8->BW hp hp' (c::cs) (c::F8)|GL {c c':AV} {cs F8:List AV}:Xa 4 hp c->c'=fz 4 hp c->(∀i∈qg 4 hp c,hp'.get i=none)->BW hp hp' cs F8->BW hp hp' (c::cs) (c'::F8)
theorem BW.ok{hp hp':Hp}{cs F8:List AV}(h:BW hp hp' cs F8):F8.length=cs.length/\∀j (h:j<cs.length) (h':j<F8.length),F8[j]=cs[j]\/(Xa 4 hp cs[j]/\F8[j]=fz 4 hp cs[j]/\∀i∈qg 4 hp cs[j],hp'.get i=none):=by
 induction h with
 |nil=>exact⟨rfl,fun j h=>tC⟩|same _ ih=>
  refine⟨by simp[ih.1],fun j h h'=>?_⟩;cases j with
  |zero=>exact .inl rfl|succ j=>exact ih.2 j A6 (by simpa using h')
 |GL h1 h2 h3 _ ih=>
  refine⟨by simp[ih.1],fun j h h'=>?_⟩;cases j with
  |zero=>exact .inr ⟨h1,h2,h3⟩|succ j=>exact ih.2 j A6 (by simpa using h')
def Km.wB{hp hp':Hp}{cs F8:List AV}(h:BW hp hp' cs F8):Km hp hp' (.box cs) (.box F8):=.box _ _ h.ok.1 h.ok.2
def Zd(i:Nat)(c:AV):AV:=if i=0 then .sl [] true else c
def KA(i:Nat)(o:Nat×Ob):Option (Nat×Ob):=if i=0 then none else some o
theorem W8{c:AV}:Zd 0 c=.sl [] true:=rfl
theorem Hi{o:Nat×Ob}:KA 0 o=none:=rfl
def G4{i:Nat}{c:AV}(h:i≠0):Zd i c=c:=iN h
def PO{i:Nat}{o:Nat×Ob}(h:i≠0):KA i o=some o:=iN h
theorem gY{i:Nat}{c:AV}:Zd (i+1) c=c:=rfl
theorem l6{i:Nat}{o:Nat×Ob}:KA (i+1) o=some o:=rfl
open Go
section
variable{t:Nat}{l:List (List Int)}
theorem RC:(PG t l).length=l.length:=by simp[PG]
def Hc{i:Nat}(h:i<l.length):(PG t l).getD i .bad=.Rc t 1 (tk (l.getD i [])):=by simp[PG,h]
theorem am1{r:List Int}:PG t l++[.Rc t 1 (tk r)]=PG t (l++[r]):=by simp[PG]
theorem apq{i:Nat}{r:List Int}:(PG t l).set i (.Rc t 1 (tk r))=PG t (l.set i r):=by simp[PG,Hv]
theorem AW{r:List Int}:[AV.Rc t 1 (tk r)]=PG t [r]:=rfl
def eK{f:AV->AV}{g:List Int->AV}(h:∀r,f (.Rc t 1 (tk r))=g r):(PG t l).map (cK f)=l.map g:=by simp only[PG,R8];exact zT fun x _=>h x
def oI{f:AV->Prop}(h:∀r,f (.Rc t 1 (tk r))):(∀e∈PG t l,∀c∈e.cells,f c)=True:=by refine Ie fun e he c hc=>?_;obtain⟨x,_,rfl⟩:=A2.1 he;simp only[AV.cells,iT]at hc;subst hc;exact h x
def Xe{f:AV->List Nat}(h:∀r,f (.Rc t 1 (tk r))=[]):((PG t l).flatMap fun e=>e.cells.flatMap f)=[]:=by rw[go];intro e he;obtain⟨x,_,rfl⟩:=A2.1 he;simp[AV.cells,h x]
theorem amk(n:Nat)(hp:Hp):(PG t l).map (cK (fz n hp))=Vu l:=eK fun r=>fV
theorem al0(n:Nat)(hp:Hp):(∀e∈PG t l,∀c∈e.cells,Xa n hp c)=True:=oI fun r=>by cases n<;>trivial
theorem aph(τ:Nm)(hp:Hp):(PG t l).map (cK (GV true τ hp))=PG t l:=eK fun r=>rfl
theorem arD(τ:Nm)(hp:Hp):(PG t l).map (cK (GV false τ hp))=PG t l:=eK fun r=>rfl
theorem ae9(τ:Nm)(hp:Hp):(∀e∈PG t l,∀c∈e.cells,MO true τ hp c)=True:=oI fun r=>trivial
theorem aoc(τ:Nm)(hp:Hp):(∀e∈PG t l,∀c∈e.cells,MO false τ hp c)=True:=oI fun r=>trivial
theorem ajf(τ:Nm)(hp:Hp):((PG t l).flatMap fun e=>e.cells.flatMap (AB true τ hp))=[]:=Xe fun r=>rfl
theorem asV(τ:Nm)(hp:Hp):((PG t l).flatMap fun e=>e.cells.flatMap (AB false τ hp))=[]:=Xe fun r=>rfl
theorem aiV{n:Nat}:List.replicate n (AV.lit (.int .i64 0))=tk (List.replicate n 0):=by simp[tk]
end
attribute [go_sem] RC am1 apq amk al0 aph arD ae9 aoc ajf asV aiV
open Go
def YW{C:Cx}{c:Code}{Q:Exit->St->Prop}{s:St}{id gi t k i rid rg n:Nat}{es:List AV}(hg:s.hp.get id=some (gi,.own t k es))(hi:i<es.length)(he:es.getD i .bad=.l rid rg 0 n)(hid:id≠rid)(hP:Kr s.hp (.l rid rg 0 n))(h:Ex C c Q ⟨s.tm,(id,some (gi,.own t k (es.set i (vZ s.hp (.l rid rg 0 n)))))::(rid,none)::s.hp,s.ck⟩):Ex C c Q s:=by
 refine fun a w hr=>h a w ?_;obtain⟨r1,r2,r3,e,r4,r5,r6⟩:=hr;have Wv:es[i]=.l rid rg 0 n:=by rw[<-he,gE,gG hi];rfl
 obtain⟨ee,_,_,_,jz⟩:=r4.live id _ _ hg;have DN:=jz.2.2.2.1;have P':k=1:=by have:=DN i hi;rw[Wv]at this;exact this.symm
 subst P';obtain⟨t',k',xs,hv⟩:∃t' k' xs,vZ s.hp (.l rid rg 0 n)=.Rc t' k' xs:=by
  have Ns:Xa 1 s.hp (.l rid rg 0 n):=hP;show ∃t' k' xs,(match s.hp.get rid with|some (_,.own t k es)=>if(0:Nat)=0 then AV.Rc t k (es.map (cK (fz 0 s.hp))) else fz 1 s.hp (.l rid rg 0 n)|_=>.bad)=.Rc t' k' xs;simp only[Xa]at Ns;cases v_:s.hp.get rid with
  |none=>rw[v_]at Ns;exact Ns.elim|some q=>
   obtain⟨g',ob⟩:=q;rw[v_]at Ns;cases ob with
   |own t k es=>exact⟨t,k,_,rfl⟩|box cs=>exact Ns.elim|mp _=>exact Ns.elim|ms _=>exact Ns.elim|bd _ _ _=>exact Ns.elim
 have wE:(vZ s.hp (.l rid rg 0 n)).cells=[vZ s.hp (.l rid rg 0 n)]:=by rw[hv];rfl
 have elem:∀j (hj:j<(es.set i (vZ s.hp (.l rid rg 0 n))).length),(es.set i (vZ s.hp (.l rid rg 0 n)))[j]=if i=j then vZ s.hp (.l rid rg 0 n) else es[j]' Ou:=fun j hj=>by rw[PU]
 have hA:JR (.l rid rg 0 n)=[rid]:=rfl;have:=iu r4 (fun a b=>a=i/\b=0) (es':=es.set i (vZ s.hp (.l rid rg 0 n))) (D:=[rid]) hg (by simpa using hid) sM ?_ ?_ ?_ ?_
 ·obtain⟨e',a1,a2,a3,a4,_,_⟩:=this;exact⟨r1,r2,r3,e',a1,⟨a3.trans r5.tI,r5.BA,r5.ext.trans a2,fun b hb=>r5.jR b (a4 b hb)⟩,fun t=>(r6 t).ext a2⟩
 ·intro j hj;rw[elem j hj];split
  ·rw[wE];rfl
  exact DN _ _
 ·intro a ha fR j hj tw;simp only[elem a fR]at tw ⊢;by_cases V1:i=a
  ·subst V1;simp only[ql,Wv]at hj tw ⊢;have K0:j=0:=by simp[AV.cells]at hj;exact hj
   subst K0;refine .inr ⟨⟨trivial,rfl⟩,rid,sM,rfl,hP,?_⟩;show(vZ s.hp (.l rid rg 0 n)).cells[0]=vZ s.hp (.l rid rg 0 n);simp only[wE,E6]
  simp only[iN V1];exact .inl trivial
 ·intro qJ oA;simp only[iT]at oA;subst oA;refine⟨i,0,hi,Ks,by rw[Wv];exact Sp,?_,?_⟩
  ·rw[elem i Ks,iP rfl,wE];exact Sp
  simp only[Wv];rfl
 intro qJ _ a j a' j' _ _ _ _ hA vj _ _;exact⟨hA.1.trans vj.1.symm,hA.2.trans vj.2.symm⟩
open Go
def IM(l:List Bool):List AV:=l.map B
theorem agZ(l:List Bool):(IM l).length=l.length:=by simp[IM]
def kG{l:List Bool}{i:Nat}(h:i<l.length):(IM l).getD i .bad=B (l.getD i false):=by simp[IM,h]
theorem aiD(l:List Bool):PE (IM l)=True:=by refine Ie fun e he c hc=>?_;simp only[IM,A2]at he;obtain⟨x,_,rfl⟩:=he;simp only[AV.cells,iT]at hc;subst hc;trivial
theorem at0{l:List Bool}{b:Bool}:IM l++[.lit (.bool b)]=IM (l++[b]):=by simp[IM]
theorem abJ{l:List Bool}{i:Nat}{b:Bool}:(IM l).set i (.lit (.bool b))=IM (l.set i b):=by simp[IM,Hv]
theorem aiE{n:Nat}:List.replicate n (AV.lit (.bool false))=IM (List.replicate n false):=by simp[IM]
attribute [go_sem] agZ aiD at0 abJ aiE
open Go
attribute [go_sem] ne_eq xN false_or false_imp_iff implies_true TV oQ
def uI{a b:Prop}(h:a)(h2:b):a/\b:=⟨h,h2⟩
structure pN(p:Prop):Prop where
 out:p
def iO{p:Prop}(h:p:=by first|exact trivial|(simp only[go_sem]<;>trivial)):p:=h
def Im{f p:Prop}(z:f)(h:f->p:=by intro z;first|exact trivial|(simp only[go_sem,z]<;>trivial)):p:=h z
def Sa{p:Prop}(h:p:=by (simp only[go_sem]<;>fail)):p:=h
def v6{f p:Prop}(z:f)(h:f->p:=by intro z;(simp only[go_sem,z]<;>fail)):p:=h z
def cW{p:Prop}(h:p:=by first|rfl|(simp only[go_sem]<;>rfl)):p:=h
def p_{p:Prop}(h:p:=by first|(simp only[go_sem]<;>fail)|(simp only[go_sem]<;>simp<;>fail)|(simp<;>fail)):p:=h
def Ws{f p:Prop}(z:f)(h:f->p:=by intro z;first|rfl|(simp only[go_sem,z]<;>rfl)):p:=h z
def OF{f p:Prop}(z:f)(h:f->p:=by intro z;first|(simp only[go_sem,z]<;>fail)|(simp only[go_sem,z]<;>simp<;>fail)|(simp<;>fail)):p:=h z
def uW{p q:Prop}(k:p)(h:pN p->q:=by intro k;(repeat first|refine GA ?_|refine md ?_|refine lK ?_);exact k.out):q:=h ⟨k⟩
def uS{p q:Prop}(k:p)(h:pN p->q:=by intro k;simp only[go_sem];exact k.out):q:=h ⟨k⟩
def Z6{f p q:Prop}(z:f)(k:p)(h:f->pN p->q:=by intro z k;simp only[go_sem,z];exact k.out):q:=h z ⟨k⟩
def aaP{p:Prop}(h:p:=by simp only[go_sem]<;>trivial):p:=h
def Rp{f p:Prop}(z:f)(h:f->p:=by intro z;simp only[go_sem,z]<;>trivial):p:=h z
def uX{p:Prop}(h:p:=by simp only[go_sem]):p:=h
def an{f p:Prop}(z:f)(h:f->p:=by intro z;simp only[go_sem,z]):p:=h z
def uR{p q:Prop}(k:p)(h:pN p->q:=by intro k;(repeat first|refine GA ?_|refine md ?_|refine lK ?_);refine ZZ hC rfl fun K hK=>?_;simp only[go_sem];revert hK;revert K;exact k.out):q:=h ⟨k⟩
def uD{p q:Prop}(k:p)(h:pN p->q:=by intro k;(repeat first|refine GA ?_|refine md ?_|refine lK ?_);refine fx hC (by kernel_rfl) (by kernel_rfl) rfl fun K hK=>?_;simp only[go_sem];revert hK;revert K;exact k.out):q:=h ⟨k⟩
def uE{p q:Prop}(k:p)(h:pN p->q:=by intro k;(repeat first|refine GA ?_|refine md ?_|refine lK ?_);refine rW hC (by kernel_rfl) (by kernel_rfl) rfl fun K hK=>?_;simp only[go_sem];revert hK;revert K;exact k.out):q:=h ⟨k⟩
def uA{p q:Prop}(k:p)(h:pN p->q:=by intro k;(repeat first|refine GA ?_|refine md ?_|refine lK ?_);refine ZZ hC rfl fun K hK=>?_;simp only[go_sem];(repeat ((with_reducible refine And.intro ?_ ?_);focus (((repeat' apply And.intro)<;>first|omega|(simp;done)|kernel_rfl))));refine hK _ ?_;clear hK K;exact k.out):q:=h ⟨k⟩
def uK{p q:Prop}(k:p)(h:pN p->q:=by intro k;(repeat first|refine GA ?_|refine md ?_|refine lK ?_);refine rW hC (by kernel_rfl) (by kernel_rfl) rfl fun K hK=>?_;simp only[go_sem];(repeat ((with_reducible refine And.intro ?_ ?_);focus (((repeat' apply And.intro)<;>first|omega|(simp;done)|kernel_rfl))));refine hK _ ?_;clear hK K;exact k.out):q:=h ⟨k⟩
def uT{p q:Prop}(k:p)(h:pN p->q:=by intro k;(repeat first|refine GA ?_|refine md ?_|refine lK ?_);refine JB rfl ?_;exact k.out):q:=h ⟨k⟩
def uF{p q:Prop}(k:p)(h:pN p->q:=by intro k;(repeat first|refine GA ?_|refine md ?_|refine lK ?_);refine bj rfl ?_;exact k.out):q:=h ⟨k⟩
def uC{p q:Prop}(k:p)(h:pN p->q:=by intro k;(repeat first|refine GA ?_|refine md ?_|refine lK ?_);(first|refine JB rfl ?_|refine bj rfl ?_);exact k.out):q:=h ⟨k⟩
def nF{f p q:Prop}(z:f)(k:p)(h:f->pN p->q:=by intro z k;(repeat first|refine GA ?_|refine md ?_|refine lK ?_);refine ZZ hC rfl fun K hK=>?_;simp only[go_sem,z];revert hK;revert K;exact k.out):q:=h z ⟨k⟩
def Dp{f p q:Prop}(z:f)(k:p)(h:f->pN p->q:=by intro z k;(repeat first|refine GA ?_|refine md ?_|refine lK ?_);refine fx hC (by kernel_rfl) (by kernel_rfl) rfl fun K hK=>?_;simp only[go_sem,z];revert hK;revert K;exact k.out):q:=h z ⟨k⟩
def zj{f p q:Prop}(z:f)(k:p)(h:f->pN p->q:=by intro z k;(repeat first|refine GA ?_|refine md ?_|refine lK ?_);refine rW hC (by kernel_rfl) (by kernel_rfl) rfl fun K hK=>?_;simp only[go_sem,z];revert hK;revert K;exact k.out):q:=h z ⟨k⟩
def Bj{f p q:Prop}(z:f)(k:p)(h:f->pN p->q:=by intro z k;(repeat first|refine GA ?_|refine md ?_|refine lK ?_);refine ZZ hC rfl fun K hK=>?_;simp only[go_sem,z];(repeat ((with_reducible refine And.intro ?_ ?_);focus (((repeat' apply And.intro)<;>first|omega|(simp;done)|kernel_rfl))));refine hK _ ?_;clear hK K;exact k.out):q:=h z ⟨k⟩
def zr{f p q:Prop}(z:f)(k:p)(h:f->pN p->q:=by intro z k;(repeat first|refine GA ?_|refine md ?_|refine lK ?_);refine rW hC (by kernel_rfl) (by kernel_rfl) rfl fun K hK=>?_;simp only[go_sem,z];(repeat ((with_reducible refine And.intro ?_ ?_);focus (((repeat' apply And.intro)<;>first|omega|(simp;done)|kernel_rfl))));refine hK _ ?_;clear hK K;exact k.out):q:=h z ⟨k⟩
def He{p q:Prop}(k:p)(h:pN p->q:=by intro k;(first|refine Zf.cons rfl ?_|refine Zf.gone ?_|refine Zf.opt rfl ?_|(refine Zf.cons ?_ ?_;(focus exact Sa))|(refine Zf.less rfl (Km.wB ?_) ?_;(focus ((repeat (first|exact BW.nil|refine BW.same ?_|(refine BW.GL ?_ ?_ ?_ ?_;(focus exact iO);(focus exact cW);(focus exact p_)))));done)));exact k.out):q:=h ⟨k⟩
def aoF{f p q:Prop}(z:f)(k:p)(h:f->pN p->q:=by intro z k;(first|refine Zf.cons rfl ?_|refine Zf.gone ?_|refine Zf.opt rfl ?_|(refine Zf.cons ?_ ?_;(focus exact v6 z))|(refine Zf.less rfl (Km.wB ?_) ?_;(focus ((repeat (first|exact BW.nil|refine BW.same ?_|(refine BW.GL ?_ ?_ ?_ ?_;(focus exact Im z);(focus exact Ws z);(focus exact OF z)))));done)));exact k.out):q:=h z ⟨k⟩
def yB{p q:Prop}(k:p)(h:pN p->q:=by intro k;(first|refine O6.cons rfl ?_|(refine O6.cons ?_ ?_;(focus exact Sa))|(refine O6.snap ?_ ?_ ?_ ?_;(focus exact iO);(focus exact cW);(focus exact p_)));exact k.out):q:=h ⟨k⟩
def apI{f p q:Prop}(z:f)(k:p)(h:f->pN p->q:=by intro z k;(first|refine O6.cons rfl ?_|(refine O6.cons ?_ ?_;(focus exact v6 z))|(refine O6.snap ?_ ?_ ?_ ?_;(focus exact Im z);(focus exact Ws z);(focus exact OF z)));exact k.out):q:=h z ⟨k⟩
def aq{s:St}{a b:Hp}(h:Zf s a b:=by repeat (first|exact Zf.nil|refine He ?_)):Zf s a b:=h
def bi{s:St}{a:Hp}{b:List (Nat×AV)}(h:O6 s a b:=by repeat (first|exact O6.nil|refine yB ?_)):O6 s a b:=h
def eT{s:St}{a b:Hp}{f:Prop}(z:f)(h:f->Zf s a b:=by intro z;repeat (first|exact Zf.nil|refine aoF z ?_)):Zf s a b:=h z
def jv{s:St}{a:Hp}{b:List (Nat×AV)}{f:Prop}(z:f)(h:f->O6 s a b:=by intro z;repeat (first|exact O6.nil|refine apI z ?_)):O6 s a b:=h z
def ch{s s':St}(hc:s.ck<=s'.ck:=by exact lR _)(hh:Zf s s'.hp s'.hp:=by exact aq)(ht:O6 s s'.hp s'.tm:=by exact bi):Kd s s':=.of hc hh ht
def p6{p:Prop}(h:p:=by first|exact trivial|exact fun _ _=>rfl|(simp only[go_sem,Dg,N_,Lf,rZ,yO,Ds,xG,qq,rX,ym,AY,iT,XL,zV,gt,OH,rq,pF,iG,sV,N6,Z5]<;>first|trivial|(simp;done)|omega)|(simp;done)):p:=h
def iw{p:Prop}(h:p:=by first|rfl|(simp only[go_sem,Dg,N_,Lf,rZ,yO,Ds,xG,qq,rX,ym,AY,iT,XL,zV,gt,OH,rq,pF,iG,sV,N6,Z5]<;>rfl)):p:=h
def M3{p q:Prop}(k:p)(h:pN p->q:=by intro k;simp only[go_sem,Dg,N_,Lf,rZ,yO,Ds,xG,qq,rX,ym,AY,iT,XL,zV,gt,OH,rq,pF,iG,sV,N6,Z5];exact k.out):q:=h ⟨k⟩
def uH{p q:Prop}(k:p)(h:pN p->q:=by intro k;(repeat ((with_reducible refine And.intro ?_ ?_);focus (((repeat' apply And.intro)<;>first|omega|(simp;done)|kernel_rfl))));exact k.out):q:=h ⟨k⟩
def Kg{f p:Prop}(z:f)(h:f->p:=by intro z;first|exact trivial|exact fun _ _=>rfl|(simp only[go_sem,Dg,N_,Lf,rZ,yO,Ds,xG,qq,rX,ym,AY,iT,XL,zV,gt,OH,rq,pF,iG,sV,N6,Z5,z]<;>first|trivial|(simp;done)|omega)|(simp;done)):p:=h z
def xI{f p:Prop}(z:f)(h:f->p:=by intro z;first|rfl|(simp only[go_sem,Dg,N_,Lf,rZ,yO,Ds,xG,qq,rX,ym,AY,iT,XL,zV,gt,OH,rq,pF,iG,sV,N6,Z5,z]<;>rfl)):p:=h z
def TA{f p q:Prop}(z:f)(k:p)(h:f->pN p->q:=by intro z k;simp only[go_sem,Dg,N_,Lf,rZ,yO,Ds,xG,qq,rX,ym,AY,iT,XL,zV,gt,OH,rq,pF,iG,sV,N6,Z5,z];exact k.out):q:=h z ⟨k⟩
def jW{p q:Prop}(k:p)(h:pN p->q:=by intro k;refine(oK (by simp only[go_sem,e_,FT]<;>simp) (by simp only[go_sem,e_,FT]<;>trivial) ?_);simp only[go_sem,e_,FT];exact k.out):q:=h ⟨k⟩
def VO{f p q:Prop}(z:f)(k:p)(h:f->pN p->q:=by intro z k;refine(oK (by simp only[go_sem,e_,FT,z]<;>simp) (by simp only[go_sem,e_,FT,z]<;>trivial) ?_);simp only[go_sem,e_,FT,z];exact k.out):q:=h z ⟨k⟩
def I3{p:Prop}(h:p:=by first|exact trivial|(simp only[go_sem,e_,FT,Dg,N_,Lf,rZ]<;>first|trivial|(simp;done))):p:=h
def W5{p:Prop}(h:p:=by refine(oK (by simp only[go_sem,e_,FT]<;>simp) (by simp only[go_sem,e_,FT]<;>trivial) ?_);simp only[go_sem,e_,FT]):p:=h
def kv{f p:Prop}(z:f)(h:f->p:=by intro z;refine(oK (by simp only[go_sem,e_,FT,z]<;>simp) (by simp only[go_sem,e_,FT,z]<;>trivial) ?_);simp only[go_sem,e_,FT,z]):p:=h z
def vE{p:Prop}(h:p:=by first|exact trivial|(simp only[go_sem,e_,FT]<;>trivial)):p:=h
def b5{p q:Prop}(k:p)(h:pN p->q:=by intro k;simp only[go_sem,e_,FT];exact k.out):q:=h ⟨k⟩
def aG{p:Prop}(h:p:=by simp only[go_sem,e_,FT]):p:=h
def UR{p q:Prop}(k:p)(h:pN p->q:=by intro k;simp only[go_sem,e_,FT,Dg,N_,Lf,rZ,yO,Ds];exact k.out):q:=h ⟨k⟩
def Xv{p:Prop}(h:p:=by simp only[go_sem,e_,FT,Dg,N_,Lf,rZ,yO,Ds]):p:=h
def MD{a b p q:Prop}(hf:a)(hn:b)(k:p)(h:a->b->pN p->q:=by intro hf hn k;refine AO (T:=J9) A3 hf rfl (by rfl) (by simp[hn]) ?_;intro w e X hX hC;clear hX;rw[hn];simp only[bZ,List.zipIdx,List.map];clear hf hn;revert hC;revert X e w;exact k.out):q:=h hf hn ⟨k⟩
def Xs{p:Prop}(h:p:=by simp only[go_sem,e_,FT]<;>trivial):p:=h
def uZ{p q : Prop}(k:p)(h:pN p->q:=by intro k;(repeat refine uA ?_);exact k.out):q:=h ⟨k⟩
def uJ{p q : Prop}(k:p)(h:pN p->q:=by intro k;refine A_ (SY aaP ?_);exact k.out):q:=h ⟨k⟩
def aH{f p q : Prop}(z:f)(k:p)(h:f->pN p->q:=by intro z k;(repeat refine Bj @z ?_);exact k.out):q:=h z ⟨k⟩
def X3{p q : Prop}(k:p)(h:pN p->q:=by intro k;(repeat first|refine uC ?_|refine uA ?_);exact k.out):q:=h ⟨k⟩
def VF{f p q : Prop}(z:f)(k:p)(h:f->pN p->q:=by intro z k;(repeat first|refine uC ?_|refine Bj @z ?_);exact k.out):q:=h z ⟨k⟩
def Wc{a b p:Prop}(c:a)(d:b)(h:pN a->pN b->p:=by intro c d;refine uW ?_;exact MI _ rfl c.out d.out):p:=h ⟨c⟩ ⟨d⟩
def uP{q : Prop}(h:q:=by refine uJ ?_;rfl):q:=h
def cF{T:vp}{P:Program}{f:FuncId}{g:Nat}{hp:Hp}{vs:List AV}{rc:AV}{K:AV->List Up->List Nat->Prop}(h:UB P T f [] (vs.map (qO true [] hp)) [] rc)(hK:K (qO false [] [] rc) [] (vs.flatMap (GB true [] hp)))(a:J3 [] hp vs:=by exact iO)(b:TK false [] [] rc:=by exact iO)(c:GB false [] [] rc=[]:=by exact iO)(d:kU true [] (qO false [] [] rc):=by exact iO):J8 P T f g hp vs K:=oj a h b c d hK
def cP{T:vp}{P:Program}{f:FuncId}{g:Nat}{hp:Hp}{vs:List AV}{rc:AV}{K:AV->List Up->List Nat->Prop}(h:UB P T f [] (vs.map (qO true [] hp)) [] rc)(hK:K (qO false [] [] rc) (qq (vs.flatMap (GB true [] hp))) (vs.flatMap (GB true [] hp)))(a:J3 [] hp vs:=by exact iO)(b:TK false [] [] rc:=by exact iO)(c:GB false [] [] rc=[]:=by exact iO)(d:kU false (vs.flatMap (GB true [] hp)) (qO false [] [] rc):=by exact iO):J8 P T f g hp vs K:=EY a h b c d hK
def AJ{C:Cx}{c:Code}{Q:Exit->St->Prop}{s:St}{k:Nat}(n:Nat)(inv:Az->St)(hw:Kd s (inv (k,0)))(hr:∀ck i:Nat,i<=n->Ex C c (AI (fun s'=>∃j:Az,j.2<=n/\n-j.2<n - i/\Kd s' (inv j)) Q) (inv (ck,i))):Ex C (.loop c) Q s:=
 PV inv (fun q=>q.2<=n) (fun q=>n-q.2) (k,0) (zL _) hw fun q h=>hr q.1 q.2 h
def R7{C:Cx}{c:Code}{Q:Exit->St->Prop}{s:St}{k:Nat}(n:Nat)(inv:Az->St)(P:Az->Prop)(h0:P (k,0))(hw:Kd s (inv (k,0)))(hr:∀ck i:Nat,i<=n->P (ck,i)->Ex C c (AI (fun s'=>∃j:Az,(j.2<=n/\P j)/\n-j.2<n - i/\Kd s' (inv j)) Q) (inv (ck,i))):Ex C (.loop c) Q s:=
 PV inv (fun q=>q.2<=n/\P q) (fun q=>n-q.2) (k,0) ⟨zL _,h0⟩ hw fun q h=>hr q.1 q.2 h.1 h.2
def nX{ι:Type}{p q r:ι->Prop}(j:ι)(w:r j)(a:p j:=by simp only;omega)(b:q j:=by simp only;omega):∃j,p j/\q j/\r j:=⟨j,a,b,w⟩
def wK{s s':St}{f g:Prop}(z:f)(y:g)(hc:s.ck<=s'.ck:=by exact lR _)(hh:f->Zf s s'.hp s'.hp:=by intro z;exact eT z)(ht:g->O6 s s'.hp s'.tm:=by intro z;exact jv z):Kd s s':=.of hc (hh z) (ht y)
def wT{s s':St}{g:Prop}(y:g)(hc:s.ck<=s'.ck:=by exact lR _)(hh:Zf s s'.hp s'.hp:=by exact aq)(ht:g->O6 s s'.hp s'.tm:=by intro z;exact jv z):Kd s s':=.of hc hh (ht y)
def wH{s s':St}{f:Prop}(z:f)(hc:s.ck<=s'.ck:=by exact lR _)(hh:f->Zf s s'.hp s'.hp:=by intro z;exact eT z)(ht:O6 s s'.hp s'.tm:=by exact bi):Kd s s':=.of hc (hh z) ht
def SU{p q:Prop}(k:p)(h:pN p->q:=by intro IR;intro K hK;refine uH ?_;refine hK _ ?_;clear hK K;exact IR.out):q:=h ⟨k⟩
def R6{p q r0:Prop}(cQ0:r0)(k:p)(h:r0->pN p->q:=by intro cQ0 IR;intro K hK;refine uH ?_;refine cF @cQ0 ?_;refine uS ?_;refine uH ?_;refine hK _ ?_;clear hK K;exact IR.out):q:=h cQ0 ⟨k⟩
def yX{p q r0:Prop}(cQ0:r0)(k:p)(h:r0->pN p->q:=by intro cQ0 IR;refine uR ?_;intro K hK;refine cF @cQ0 ?_;refine uS ?_;refine hK _ ?_;clear hK K;exact IR.out):q:=h cQ0 ⟨k⟩
def C0{q r0 r1:Prop}(cQ0:r0)(cQ1:r1)(h:pN r0->pN r1->q:=by intro cQ0 cQ1;refine uZ ?_;exact Wc cQ0.out cQ1.out):q:=h ⟨cQ0⟩ ⟨cQ1⟩
def Dx{p q r0:Prop}(cQ0:r0)(k:p)(h:r0->pN p->q:=by intro cQ0 IR;refine uH ?_;refine cF @cQ0 ?_;refine uS ?_;exact IR.out):q:=h cQ0 ⟨k⟩
def VT{p q r0:Prop}(cQ0:r0)(k:p)(h:r0->pN p->q:=by intro cQ0 IR;refine uR ?_;intro K hK;refine cP @cQ0 ?_;refine uS ?_;refine uH ?_;refine hK _ ?_;clear hK K;exact IR.out):q:=h cQ0 ⟨k⟩
def WM{p q:Prop}(k:p)(h:pN p->q:=by intro IR;refine uT ?_;refine uZ ?_;exact IR.out):q:=h ⟨k⟩
def EP{p q:Prop}(k:p)(h:pN p->q:=by intro IR;refine uZ ?_;refine uW ?_;exact IR.out):q:=h ⟨k⟩
def Yi{p q r0:Prop}(cQ0:r0)(k:p)(h:r0->pN p->q:=by intro cQ0 IR;intro K hK;refine uH ?_;refine cP @cQ0 ?_;refine uS ?_;refine uH ?_;refine hK _ ?_;clear hK K;exact IR.out):q:=h cQ0 ⟨k⟩
def GJ{p q r0:Prop}(cQ0:r0)(k:p)(h:r0->pN p->q:=by intro cQ0 IR;refine nF @cQ0 ?_;intro K hK;refine hK _ ?_;clear hK K;exact IR.out):q:=h cQ0 ⟨k⟩
def I6{p q r0:Prop}(cQ0:r0)(k:p)(h:r0->pN p->q:=by intro cQ0 IR;intro K hK;refine Dx @cQ0 ?_;refine hK _ ?_;clear hK K;exact IR.out):q:=h cQ0 ⟨k⟩
def UN{p q:Prop}(k:p)(h:pN p->q:=by intro IR;refine uF ?_;refine uZ ?_;exact IR.out):q:=h ⟨k⟩
def eh{p q r0:Prop}(cQ0:r0)(k:p)(h:r0->pN p->q:=by intro cQ0 IR;refine cF @cQ0 ?_;refine uS ?_;exact IR.out):q:=h cQ0 ⟨k⟩
def N5{p q r0:Prop}(cQ0:r0)(k:p)(h:r0->pN p->q:=by intro cQ0 IR;refine aH @cQ0 ?_;refine WM ?_;refine A_ ?_;exact IR.out):q:=h cQ0 ⟨k⟩
def Gk{p q r0:Prop}(cQ0:r0)(k:p)(h:r0->pN p->q:=by intro cQ0 IR;refine uR ?_;intro K hK;refine cP @cQ0 ?_;refine uS ?_;refine hK _ ?_;clear hK K;exact IR.out):q:=h cQ0 ⟨k⟩
def NL{p q r0:Prop}(cQ0:r0)(k:p)(h:r0->pN p->q:=by intro cQ0 IR;refine aH @cQ0 ?_;refine uF ?_;exact IR.out):q:=h cQ0 ⟨k⟩
def WE{p q:Prop}(k:p)(h:pN p->q:=by intro IR;refine uZ ?_;refine A_ ?_;exact IR.out):q:=h ⟨k⟩
def X5{q r0:Prop}(cQ0:r0)(h:r0->q:=by intro cQ0;refine nF @cQ0 ?_;refine SU ?_;refine WM ?_;rw[Ak qG];exact uP):q:=h cQ0
def OD{p q:Prop}(k:p)(h:pN p->q:=by intro IR;refine uZ ?_;refine uJ ?_;exact IR.out):q:=h ⟨k⟩
def Et{q:Prop}(h:q:=by refine uZ ?_;exact uP):q:=h
def Ed{q:Prop}(h:q:=by refine WM ?_;exact uP):q:=h
def xT{p q r0:Prop}(cQ0:r0)(k:p)(h:r0->pN p->q:=by intro cQ0 IR;refine aH @cQ0 ?_;refine uJ ?_;exact IR.out):q:=h cQ0 ⟨k⟩
def Qd{p q:Prop}(k:p)(h:pN p->q:=by intro IR;refine uS ?_;refine uH ?_;exact IR.out):q:=h ⟨k⟩
def Ew{p q r0:Prop}(cQ0:r0)(k:p)(h:r0->pN p->q:=by intro cQ0 IR;refine Dp @cQ0 ?_;refine SU ?_;exact IR.out):q:=h cQ0 ⟨k⟩
def BL{p q:Prop}(k:p)(h:pN p->q:=by intro IR;refine uZ ?_;refine uR ?_;exact IR.out):q:=h ⟨k⟩
def Ij{p q r0:Prop}(cQ0:r0)(k:p)(h:r0->pN p->q:=by intro cQ0 IR;refine VF @cQ0 ?_;refine uJ ?_;exact IR.out):q:=h cQ0 ⟨k⟩
def cx{p q r0:Prop}(cQ0:r0)(k:p)(h:r0->pN p->q:=by intro cQ0 IR;refine nF @cQ0 ?_;refine SU ?_;exact IR.out):q:=h cQ0 ⟨k⟩
def mb{p q r0:Prop}(cQ0:r0)(k:p)(h:r0->pN p->q:=by intro cQ0 IR;refine zj @cQ0 ?_;refine SU ?_;exact IR.out):q:=h cQ0 ⟨k⟩
def eg{p q:Prop}(k:p)(h:pN p->q:=by intro IR;refine WM ?_;refine uJ ?_;exact IR.out):q:=h ⟨k⟩
def kV{p q r0:Prop}(cQ0:r0)(k:p)(h:r0->pN p->q:=by intro cQ0 IR;refine VF @cQ0 ?_;refine uW ?_;exact IR.out):q:=h cQ0 ⟨k⟩
def x8{p q:Prop}(k:p)(h:pN p->q:=by intro IR;refine M3 ?_;refine uH ?_;exact IR.out):q:=h ⟨k⟩
def K6{p q r0:Prop}(cQ0:r0)(k:p)(h:r0->pN p->q:=by intro cQ0 IR;refine aH @cQ0 ?_;refine uT ?_;exact IR.out):q:=h cQ0 ⟨k⟩
def TD{p q:Prop}(k:p)(h:pN p->q:=by intro IR;refine WM ?_;refine A_ ?_;exact IR.out):q:=h ⟨k⟩
def Fm{q r0 r1 r2:Prop}(cQ0:r0)(cQ1:r1)(cQ2:r2)(h:r0->pN r1->pN r2->q:=by intro cQ0 cQ1 cQ2;refine aH @cQ0 ?_;exact Wc cQ1.out cQ2.out):q:=h cQ0 ⟨cQ1⟩ ⟨cQ2⟩
def QT{p q r0:Prop}(cQ0:r0)(k:p)(h:r0->pN p->q:=by intro cQ0 IR;refine GJ @cQ0 ?_;refine uF ?_;exact IR.out):q:=h cQ0 ⟨k⟩
def jq{p q:Prop}(k:p)(h:pN p->q:=by intro IR;refine El ?_;refine uZ ?_;exact IR.out):q:=h ⟨k⟩
def zF{p q r0:Prop}(cQ0:r0)(k:p)(h:r0->pN p->q:=by intro cQ0 IR;refine aH @cQ0 ?_;refine UN ?_;exact IR.out):q:=h cQ0 ⟨k⟩
def cw{p q r0 r1:Prop}(cQ0:r0)(cQ1:r1)(k:p)(h:r0->r1->pN p->q:=by intro cQ0 cQ1 IR;refine uA ?_;refine nF @cQ0 ?_;refine I6 @cQ1 ?_;exact IR.out):q:=h cQ0 cQ1 ⟨k⟩
def Oy{q:Prop}(h:q:=by refine WE ?_;rw[show f90.results.toList=[.cell 4 77,.tmp 5] from rfl];exact W5):q:=h
def P7{p q r0 r1:Prop}(cQ0:r0)(cQ1:r1)(k:p)(h:r0->r1->pN p->q:=by intro cQ0 cQ1 IR;refine VF @cQ0 ?_;refine zr @cQ1 ?_;refine X3 ?_;refine uJ ?_;exact IR.out):q:=h cQ0 cQ1 ⟨k⟩
def Bn{p q r0:Prop}(cQ0:r0)(k:p)(h:r0->pN p->q:=by intro cQ0 IR;refine uA ?_;refine yX @cQ0 ?_;refine uW ?_;refine uJ ?_;exact IR.out):q:=h cQ0 ⟨k⟩
def UV{q r0 r1:Prop}(cQ0:r0)(cQ1:r1)(h:pN r0->pN r1->q:=by intro cQ0 cQ1;refine uA ?_;exact Wc cQ0.out cQ1.out):q:=h ⟨cQ0⟩ ⟨cQ1⟩
def WT{p q r0 r1:Prop}(cQ0:r0)(cQ1:r1)(k:p)(h:r0->r1->pN p->q:=by intro cQ0 cQ1 IR;refine nF @cQ0 ?_;refine R6 @cQ1 ?_;exact IR.out):q:=h cQ0 cQ1 ⟨k⟩
def jm{q r0:Prop}(cQ0:r0)(h:r0->q:=by intro cQ0;refine aH @cQ0 ?_;exact uP):q:=h cQ0
def f7{p q:Prop}(k:p)(h:pN p->q:=by intro IR;simp only[go_sem,Dg,N_,Lf,rZ,yO,Ds,b_,FV,rX,AY,rq,pF,iG,MP,Z5];refine WE ?_;exact IR.out):q:=h ⟨k⟩
def xJ{p q:Prop}(k:p)(h:pN p->q:=by intro IR;refine uF ?_;refine uW ?_;exact IR.out):q:=h ⟨k⟩
def Va{p q r0:Prop}(cQ0:r0)(k:p)(h:r0->pN p->q:=by intro cQ0 IR;refine Ew @cQ0 ?_;refine uZ ?_;exact IR.out):q:=h cQ0 ⟨k⟩
def PD{p q r0:Prop}(cQ0:r0)(k:p)(h:r0->pN p->q:=by intro cQ0 IR;refine eh @cQ0 ?_;refine uH ?_;exact IR.out):q:=h cQ0 ⟨k⟩
def LY{p q r0:Prop}(cQ0:r0)(k:p)(h:r0->pN p->q:=by intro cQ0 IR;refine aH @cQ0 ?_;refine uW ?_;exact IR.out):q:=h cQ0 ⟨k⟩
end Go.Sym
namespace Go.Proofs.YtfcgkbinohibcaaGreatDoor
open Go Go.Sym Go.Proofs.Tryz
def afr:List (Nat×TI):=
[
 (2,⟨.int .i64,false,1,8,[.int .i64],false⟩),
 (3,⟨.int .i64,false,1,8,[.int .i64],false⟩),
 (4,⟨.bool,false,1,1,[.bool],false⟩),
 (5,⟨.int .u8,false,1,1,[.int .u8],false⟩),
 (7,⟨.struct [(0,2),(1,3),(2,4),(3,6)],true,4,24,[.int .i64,.int .i64,.bool,.int .u8],true⟩),
 (9,⟨.str,false,1,16,[.str],false⟩),
 (12,⟨.int .u64,false,1,8,[.int .u64],false⟩),
 (13,⟨.struct [(0,9),(1,12)],true,2,24,[.str,.int .u64],false⟩),
 (15,⟨.ptr 306,false,1,8,[.ptr],false⟩),
 (16,⟨.ptr 309,false,1,8,[.ptr],false⟩),
 (17,⟨.ptr 316,false,1,8,[.ptr],false⟩),
 (18,⟨.struct [(0,17)],true,1,8,[.ptr],false⟩),
 (20,⟨.iface,false,1,16,[.iface],false⟩),
 (21,⟨.int .i32,false,1,4,[.int .i32],false⟩),
 (22,⟨.slice 3,false,1,24,[.sl],false⟩),
 (23,⟨.ptr 60,false,1,8,[.ptr],false⟩),
 (25,⟨.slice 82,false,1,24,[.sl],false⟩),
 (26,⟨.slice 108,false,1,24,[.sl],false⟩),
 (27,⟨.struct [(0,25),(1,26)],true,2,48,[.sl,.sl],false⟩),
 (28,⟨.struct [(0,25),(1,26)],true,2,48,[.sl,.sl],false⟩),
 (31,⟨.slice 63,false,1,24,[.sl],false⟩),
 (32,⟨.struct [(0,3),(1,31)],true,2,32,[.int .i64,.sl],false⟩),
 (33,⟨.struct [(0,3),(1,31)],true,2,32,[.int .i64,.sl],false⟩),
 (34,⟨.slice 22,false,1,24,[.sl],false⟩),
 (35,⟨.struct [(0,34),(1,34)],true,2,48,[.sl,.sl],false⟩),
 (36,⟨.struct [(0,34),(1,34)],true,2,48,[.sl,.sl],false⟩),
 (40,⟨.slice 92,false,1,24,[.sl],false⟩),
 (46,⟨.slice 95,false,1,24,[.sl],false⟩),
 (48,⟨.slice 107,false,1,24,[.sl],false⟩),
 (49,⟨.int .i64,false,1,8,[.int .i64],false⟩),
 (53,⟨.slice 65,false,1,24,[.sl],false⟩),
 (59,⟨.struct [(0,22),(1,3)],true,2,32,[.sl,.int .i64],false⟩),
 (60,⟨.struct [(0,22),(1,3)],true,2,32,[.sl,.int .i64],false⟩),
 (62,⟨.struct [(0,3),(1,36)],true,3,56,[.int .i64,.sl,.sl],false⟩),
 (63,⟨.struct [(0,3),(1,36)],true,3,56,[.int .i64,.sl,.sl],false⟩),
 (64,⟨.struct [(0,3),(1,4),(2,9)],true,3,32,[.int .i64,.bool,.str],true⟩),
 (65,⟨.struct [(0,3),(1,4),(2,9)],true,3,32,[.int .i64,.bool,.str],true⟩),
 (74,⟨.slice 77,false,1,24,[.sl],false⟩),
 (76,⟨.struct [(0,3),(1,3)],true,2,16,[.int .i64,.int .i64],true⟩),
 (77,⟨.struct [(0,3),(1,3)],true,2,16,[.int .i64,.int .i64],true⟩),
 (81,⟨.struct [(0,9),(1,3),(2,3),(3,3),(4,22)],true,5,64,[.str,.int .i64,.int .i64,.int .i64,.sl],false⟩),
 (82,⟨.struct [(0,9),(1,3),(2,3),(3,3),(4,22)],true,5,64,[.str,.int .i64,.int .i64,.int .i64,.sl],false⟩),
 (84,⟨.slice 5,false,1,24,[.sl],false⟩),
 (91,⟨.struct [(0,3),(1,3),(2,3)],true,3,24,[.int .i64,.int .i64,.int .i64],true⟩),
 (92,⟨.struct [(0,3),(1,3),(2,3)],true,3,24,[.int .i64,.int .i64,.int .i64],true⟩),
 (94,⟨.struct [(0,3),(1,3),(2,3)],true,3,24,[.int .i64,.int .i64,.int .i64],true⟩),
 (95,⟨.struct [(0,3),(1,3),(2,3)],true,3,24,[.int .i64,.int .i64,.int .i64],true⟩),
 (96,⟨.struct [(0,22),(1,22)],true,2,48,[.sl,.sl],false⟩),
 (97,⟨.struct [(0,22),(1,22)],true,2,48,[.sl,.sl],false⟩),
 (106,⟨.struct [(0,3),(1,3),(2,3)],true,3,24,[.int .i64,.int .i64,.int .i64],true⟩),
 (107,⟨.struct [(0,3),(1,3),(2,3)],true,3,24,[.int .i64,.int .i64,.int .i64],true⟩),
 (108,⟨.struct [(0,3),(1,3),(2,3)],true,3,24,[.int .i64,.int .i64,.int .i64],true⟩),
 (113,⟨.ptr 157,false,1,8,[.ptr],false⟩),
 (119,⟨.other,false,1,8,[.fn],false⟩),
 (123,⟨.map 9 3,false,1,8,[.map],false⟩),
 (124,⟨.struct [(0,123),(1,31)],true,2,32,[.map,.sl],false⟩),
 (125,⟨.struct [(0,123),(1,31)],true,2,32,[.map,.sl],false⟩),
 (126,⟨.slice 31,false,1,24,[.sl],false⟩),
 (147,⟨.slice 4,false,1,24,[.sl],false⟩),
 (156,⟨.struct [(0,28),(2,22)],true,3,72,[.sl,.sl,.sl],false⟩),
 (157,⟨.struct [(0,28),(2,22)],true,3,72,[.sl,.sl,.sl],false⟩),
 (160,⟨.ptr 125,false,1,8,[.ptr],false⟩),
 (161,⟨.ptr 163,false,1,8,[.ptr],false⟩),
 (162,⟨.struct [(0,113),(1,160),(2,22),(3,3),(4,119)],true,5,56,[.ptr,.ptr,.sl,.int .i64,.fn],false⟩),
 (163,⟨.struct [(0,113),(1,160),(2,22),(3,3),(4,119)],true,5,56,[.ptr,.ptr,.sl,.int .i64,.fn],false⟩),
 (166,⟨.struct [(0,3),(1,3),(2,3),(3,9)],true,4,40,[.int .i64,.int .i64,.int .i64,.str],true⟩),
 (167,⟨.struct [(0,3),(1,3),(2,3),(3,9)],true,4,40,[.int .i64,.int .i64,.int .i64,.str],true⟩),
 (173,⟨.slice 9,false,1,24,[.sl],false⟩),
 (175,⟨.slice 177,false,1,24,[.sl],false⟩),
 (176,⟨.struct [(0,82),(5,108),(8,173)],true,9,112,[.str,.int .i64,.int .i64,.int .i64,.sl,.int .i64,.int .i64,.int .i64,.sl],false⟩),
 (177,⟨.struct [(0,82),(5,108),(8,173)],true,9,112,[.str,.int .i64,.int .i64,.int .i64,.sl,.int .i64,.int .i64,.int .i64,.sl],false⟩),
 (181,⟨.slice 46,false,1,24,[.sl],false⟩),
 (184,⟨.ptr 186,false,1,8,[.ptr],false⟩),
 (185,⟨.struct [(0,184),(1,84)],true,2,32,[.ptr,.sl],false⟩),
 (186,⟨.ra 5,true,2,32,[.ptr,.sl],false⟩),
 (188,⟨.iface,false,1,16,[.iface],false⟩),
 (189,⟨.iface,false,1,16,[.iface],false⟩),
 (210,⟨.int .u64,false,1,8,[.int .u64],false⟩),
 (226,⟨.ptr 5,false,1,8,[.ptr],false⟩),
 (229,⟨.map 3 3,false,1,8,[.map],false⟩),
 (233,⟨.int .i64,false,1,8,[.int .i64],false⟩),
 (240,⟨.int .u32,false,1,4,[.int .u32],false⟩),
 (242,⟨.int .u64,false,1,8,[.int .u64],false⟩),
 (254,⟨.array 10 5,true,10,10,List.replicate 10 (.int .u8),false⟩),
 (267,⟨.int .u64,false,1,8,[.int .u64],false⟩),
 (271,⟨.ptr 3,false,1,8,[.ptr],false⟩),
 (285,⟨.array 24 5,true,24,24,List.replicate 24 (.int .u8),false⟩),
 (291,⟨.ptr 267,false,1,8,[.ptr],false⟩),
 (299,⟨.array 20 242,true,20,160,[.int .u64,.int .u64,.int .u64,.int .u64,.int .u64,.int .u64,.int .u64,.int .u64,.int .u64,.int .u64,.int .u64,.int .u64,.int .u64,.int .u64,.int .u64,.int .u64,.int .u64,.int .u64,.int .u64,.int .u64],false⟩),
 (300,⟨.array 65 5,true,65,65,List.replicate 65 (.int .u8),false⟩),
 (303,⟨.array 32 5,true,32,32,List.replicate 32 (.int .u8),false⟩),
 (304,⟨.array 64 5,true,64,64,List.replicate 64 (.int .u8),false⟩),
 (305,⟨.struct [(0,17),(1,17),(2,17),(3,9)],true,4,40,[.ptr,.ptr,.ptr,.str],false⟩),
 (315,⟨.struct [(0,12),(1,12),(2,240),(3,310),(4,5),(5,5),(6,311),(7,312),(8,226),(9,313),(10,314)],true,11,48,[.int .u64,.int .u64,.int .u32,.int .u8,.int .u8,.int .u8,.int .u8,.fn,.ptr,.int .i32,.int .i32],false⟩)]
def eQ:List ByteArray:=[⟨#[]⟩,⟨#[101,110,116,114,121]⟩,⟨#[98,101,108,116]⟩,⟨#[115,99,114,101,101,110]⟩,⟨#[100,105,118,101,114,116,101,114]⟩,⟨#[108,111,111,112]⟩,⟨#[103,97,116,101]⟩,⟨#[115,116,111,114,101]⟩,⟨#[99,104,117,116,101]⟩,⟨#[109,97,110,117,97,108]⟩]
def Au:List Int:=[0,1,28,2,29,14,24,3,30,22,20,15,25,17,4,8,31,27,13,23,21,19,16,7,26,12,18,6,11,5,10,9]
def Nb:List Int:=[0,1,56,2,57,49,28,3,61,58,42,50,38,29,17,4,62,47,59,36,45,43,51,22,53,39,33,30,24,18,12,5,63,55,48,27,60,41,37,16,46,35,44,21,52,32,23,11,54,26,40,15,34,20,31,10,25,14,19,9,13,8,7,6]
def CT:List Int:=[1,10,100,1000,10000,100000,1000000,10000000,100000000,1000000000,10000000000,100000000000,1000000000000,10000000000000,100000000000000,1000000000000000,10000000000000000,100000000000000000,1000000000000000000,10000000000000000000]
def Ye:List (Nat×List AV):=[(0,[.sl (eQ.map S) false]),(1,CT.map fun n=>.lit (.int .u64 n)),(2,Au.map fun n=>.lit (.int .u8 n)),(3,Nb.map fun n=>.lit (.int .u8 n))]
def Mj:List (Nat×Array Value):=[(1,(CT.map fun z=>Value.int .u64 z).toArray)]
def J9:vp:=⟨afr,Ye,Mj⟩
def A3:JE prog J9:=ade kR
theorem alk:tl J9 3=⟨.int .i64,false,1,8,[.int .i64],false⟩:=rfl
theorem aiA:tl J9 4=⟨.bool,false,1,1,[.bool],false⟩:=rfl
theorem aef:tl J9 5=⟨.int .u8,false,1,1,[.int .u8],false⟩:=rfl
theorem aiJ:tl J9 9=⟨.str,false,1,16,[.str],false⟩:=rfl
theorem alB:tl J9 22=⟨.slice 3,false,1,24,[.sl],false⟩:=rfl
theorem abV:tl J9 25=⟨.slice 82,false,1,24,[.sl],false⟩:=rfl
theorem acD:tl J9 26=⟨.slice 108,false,1,24,[.sl],false⟩:=rfl
theorem ati:tl J9 28=⟨.struct [(0,25),(1,26)],true,2,48,[.sl,.sl],false⟩:=rfl
theorem aml:tl J9 31=⟨.slice 63,false,1,24,[.sl],false⟩:=rfl
theorem abf:tl J9 33=⟨.struct [(0,3),(1,31)],true,2,32,[.int .i64,.sl],false⟩:=rfl
theorem arK:tl J9 34=⟨.slice 22,false,1,24,[.sl],false⟩:=rfl
theorem aj0:tl J9 36=⟨.struct [(0,34),(1,34)],true,2,48,[.sl,.sl],false⟩:=rfl
theorem aa5:tl J9 40=⟨.slice 92,false,1,24,[.sl],false⟩:=rfl
theorem acO:tl J9 46=⟨.slice 95,false,1,24,[.sl],false⟩:=rfl
theorem ahh:tl J9 48=⟨.slice 107,false,1,24,[.sl],false⟩:=rfl
theorem aj4:tl J9 49=⟨.int .i64,false,1,8,[.int .i64],false⟩:=rfl
theorem ahz:tl J9 53=⟨.slice 65,false,1,24,[.sl],false⟩:=rfl
theorem anI:tl J9 60=⟨.struct [(0,22),(1,3)],true,2,32,[.sl,.int .i64],false⟩:=rfl
theorem alR:tl J9 63=⟨.struct [(0,3),(1,36)],true,3,56,[.int .i64,.sl,.sl],false⟩:=rfl
theorem arz:tl J9 65=⟨.struct [(0,3),(1,4),(2,9)],true,3,32,[.int .i64,.bool,.str],true⟩:=rfl
theorem amE:tl J9 74=⟨.slice 77,false,1,24,[.sl],false⟩:=rfl
theorem aud:tl J9 77=⟨.struct [(0,3),(1,3)],true,2,16,[.int .i64,.int .i64],true⟩:=rfl
theorem aeS:tl J9 82=⟨.struct [(0,9),(1,3),(2,3),(3,3),(4,22)],true,5,64,[.str,.int .i64,.int .i64,.int .i64,.sl],false⟩:=rfl
theorem ak8:tl J9 84=⟨.slice 5,false,1,24,[.sl],false⟩:=rfl
theorem als:tl J9 92=⟨.struct [(0,3),(1,3),(2,3)],true,3,24,[.int .i64,.int .i64,.int .i64],true⟩:=rfl
theorem aeq:tl J9 95=⟨.struct [(0,3),(1,3),(2,3)],true,3,24,[.int .i64,.int .i64,.int .i64],true⟩:=rfl
theorem ajL:tl J9 97=⟨.struct [(0,22),(1,22)],true,2,48,[.sl,.sl],false⟩:=rfl
theorem aht:tl J9 107=⟨.struct [(0,3),(1,3),(2,3)],true,3,24,[.int .i64,.int .i64,.int .i64],true⟩:=rfl
theorem asa:tl J9 108=⟨.struct [(0,3),(1,3),(2,3)],true,3,24,[.int .i64,.int .i64,.int .i64],true⟩:=rfl
theorem akC:tl J9 113=⟨.ptr 157,false,1,8,[.ptr],false⟩:=rfl
theorem aqt:tl J9 119=⟨.other,false,1,8,[.fn],false⟩:=rfl
theorem aeU:tl J9 123=⟨.map 9 3,false,1,8,[.map],false⟩:=rfl
theorem auh:tl J9 125=⟨.struct [(0,123),(1,31)],true,2,32,[.map,.sl],false⟩:=rfl
theorem at8:tl J9 126=⟨.slice 31,false,1,24,[.sl],false⟩:=rfl
theorem aj7:tl J9 147=⟨.slice 4,false,1,24,[.sl],false⟩:=rfl
theorem aea:tl J9 157=⟨.struct [(0,28),(2,22)],true,3,72,[.sl,.sl,.sl],false⟩:=rfl
theorem amS:tl J9 160=⟨.ptr 125,false,1,8,[.ptr],false⟩:=rfl
theorem acJ:tl J9 163=⟨.struct [(0,113),(1,160),(2,22),(3,3),(4,119)],true,5,56,[.ptr,.ptr,.sl,.int .i64,.fn],false⟩:=rfl
theorem ajC:tl J9 167=⟨.struct [(0,3),(1,3),(2,3),(3,9)],true,4,40,[.int .i64,.int .i64,.int .i64,.str],true⟩:=rfl
theorem an2:tl J9 173=⟨.slice 9,false,1,24,[.sl],false⟩:=rfl
theorem alf:tl J9 175=⟨.slice 177,false,1,24,[.sl],false⟩:=rfl
theorem apx:tl J9 177=⟨.struct [(0,82),(5,108),(8,173)],true,9,112,[.str,.int .i64,.int .i64,.int .i64,.sl,.int .i64,.int .i64,.int .i64,.sl],false⟩:=rfl
theorem acP:tl J9 181=⟨.slice 46,false,1,24,[.sl],false⟩:=rfl
theorem aet:tl J9 186=⟨.ra 5,true,2,32,[.ptr,.sl],false⟩:=rfl
theorem alL:tl J9 210=⟨.int .u64,false,1,8,[.int .u64],false⟩:=rfl
theorem atO:tl J9 229=⟨.map 3 3,false,1,8,[.map],false⟩:=rfl
theorem ae8:tl J9 242=⟨.int .u64,false,1,8,[.int .u64],false⟩:=rfl
theorem afu:tl J9 254=⟨.array 10 5,true,10,10,List.replicate 10 (.int .u8),false⟩:=rfl
theorem acE:tl J9 304=⟨.array 64 5,true,64,64,List.replicate 64 (.int .u8),false⟩:=rfl
attribute [go_sem] alk aiA aef aiJ alB abV acD ati aml abf arK aj0 aa5 acO ahh aj4 ahz anI alR arz amE aud aeS ak8 als aeq ajL aht asa akC aqt aeU auh at8 aj7 aea amS acJ ajC an2 alf apx acP aet alL atO ae8 afu acE
def xo(x n:Int):Int:=if n<1 then 0 else x % n
def GI(x:Int):Prop:=-9223372036854775808<=x/\x<=9223372036854775807
def aV{l:List Int}{n:Nat}(h:n<l.length):l.getD n 0∈l:=by rw[gE,gG h];exact gM h
def atZ(x n:Int)(hx:GI x)(MU:n<=9223372036854775807):UB prog J9 48 [] [I x,I n] [] (I (xo x n)):=by
 obtain⟨hx,Jy⟩:=hx;have h1:¬n<1->xo x n=if x.tmod n<0 then x.tmod n+n else x.tmod n:=by
  intro h;rw[xo,iN h];by_cases PI:x<0
  .rw[Int.tmod_eq_emod];have:=Int.emod_nonneg x (b:=n) oM;have:=Int.emod_lt_of_pos x (b:=n) oM;have dK:(n.natAbs:Int)=n:=oM;split<;>split<;>omega
  have H7:0<=x:=oM;have:=Int.tmod_nonneg n H7;rw[iN oM,DQ H7]
 have h2:¬n<1->-n<x.tmod n/\x.tmod n<n:=by intro h;have:=Int.tmod_lt_of_pos x (b:=n) oM;have:=Int.lt_tmod_of_pos x (b:=n) oM;omega
 refine MD func48 ntmps48 ?_;intro w e X hC;refine C0 ?_ ?_<;>intro h
 .refine OD ?_;try rfl
  simp only[go_sem,xo,iP h]
 obtain⟨h3,h4⟩:=h2 h;refine C0 ?_ ?_<;>intro e
 .refine OD ?_;try rfl
  simp only[go_sem,h1 h,iP e]
 refine OD ?_;try rfl
 simp only[go_sem,h1 h,iN e]
def RR(l:List Int)(a k:Nat):Nat:=min (a+k) l.length
def abD{l:List Int}{a i:Nat}:l.getD (RR l a i) 0=l.getD (a+i) 0:=by
 unfold RR;by_cases h:a+i<l.length
 .rw[Q5 oM]
 rw[Nat.min_eq_right oM,gE,gE,Zo oM,Zo oM]
def M2(l:List Int):Prop:=l.length<=2000/\∀x∈l,GI x
def M2.get{l:List Int}(hf:M2 l)(a:Nat):GI (l.getD a 0):=by
 by_cases h:a<l.length
 .exact hf.2 _ (aV h)
 rw[gE,Zo oM];exact⟨dM,dM⟩
abbrev x5(l:List Int)(a:Nat):Hp:=[(0,some (0,.box [IS l,I a]))]
def abj(l:List Int)(a:Nat)(hf:M2 l)(ha:a<=l.length):
  UB prog J9 49 (x5 l a) [.p 0 0 0 0 0] (x5 l (RR l a 1)) (I (l.getD a 0)):=by
 have IQ:=hf.1;refine MD func49 ntmps49 ?_;intro w e X hC;refine uZ ?_;refine uK ?_;refine Wc ?_ ?_<;>intro e
 .have h:l.length<=a:=oM;refine uZ ?_;(refine A_ (lO rfl iO iO ?_ ?_);all_goals (first|refine uS ?_|exact uX|skip))
  .rw[gE,Zo h];rfl
  rw[show RR l a 1=a by unfold RR;omega]
 have h:a<l.length:=oM;refine uZ ?_;have e1:(a:Int)+1-1=(a:Int):=oM;refine zr (uI @e1 (ma h)) ?_;(refine A_ (lO rfl iO iO ?_ ?_);all_goals (first|refine uS ?_|exact uX|skip))
 .rw[show RR l a 1=a+1 by unfold RR;omega];rfl
def rQ(l:List Int)(a:Nat)(n:Int)(hf:M2 l)(ha:a<=l.length)(hn:n<=9223372036854775807):
  UB prog J9 10 (x5 l a) [.p 0 0 0 0 0,I n] (x5 l (RR l a 1)) (I (xo (l.getD a 0) n)):=by
 refine MD func10 ntmps10 ?_;intro w e X hC;refine BL ?_;intro K hK;refine ZI rfl ((abj l a hf ha)) iO iO iO iO iO ?_;refine uS ?_;refine eh ((atZ (l.getD a 0) n (hf.get a) hn)) ?_;refine hK _ ?_;clear hK K;(refine A_ (lO rfl iO iO ?_ ?_);all_goals (first|refine uS ?_|exact uX|skip))
def yN{x n:Int}(h:1<=n):0<=xo x n/\xo x n<n:=by unfold xo;rw[iN oM];exact⟨Int.emod_nonneg _ oM,Int.emod_lt_of_pos _ oM⟩
structure Nd where
 nm:ByteArray
 kd:Int
 ln:Int
 zn:Int
 ex:List Int
 deriving Inhabited
abbrev Nd.av(x:Nd):AV:=.agg [S x.nm,I x.kd,I x.ln,I x.zn,IS x.ex]
def H4(l:List Nd):List AV:=l.map Nd.av
theorem Su(l:List Nd):(H4 l).length=l.length:=by simp[H4]
def bp{l:List Nd}{i:Nat}(h:i<l.length):(H4 l).getD i .bad=(l.getD i default).av:=by simp[H4,h]
theorem amv(l:List Nd):PE (H4 l)=True:=by refine Ie fun e he c hc=>?_;simp only[H4,A2]at he;obtain⟨x,_,rfl⟩:=he;simp only[AV.cells,rX,AY,xN]at hc;rcases hc with rfl|rfl|rfl|rfl|rfl<;>first|trivial|rfl
theorem aal{l:List Nd}{nm:ByteArray}{kd:Int}{ln:Int}{zn:Int}{ex:List Int}:H4 l++[.agg [.lit (.string nm),.lit (.int .i64 kd),.lit (.int .i64 ln),.lit (.int .i64 zn),.sl (tk ex) false]]=H4 (l++[⟨nm,kd,ln,zn,ex⟩]):=by simp[H4]
attribute [go_sem] Su amv aal
structure T3 where
 a:Int
 b:Int
 c:Int
 deriving Inhabited
abbrev T3.av(x:T3):AV:=.agg [I x.a,I x.b,I x.c]
def YA(l:List T3):List AV:=l.map T3.av
theorem MY(l:List T3):(YA l).length=l.length:=by simp[YA]
def Hr{l:List T3}{i:Nat}(h:i<l.length):(YA l).getD i .bad=(l.getD i default).av:=by simp[YA,h]
theorem af6(l:List T3):PE (YA l)=True:=by refine Ie fun e he c hc=>?_;simp only[YA,A2]at he;obtain⟨x,_,rfl⟩:=he;simp only[AV.cells,rX,AY,xN]at hc;rcases hc with rfl|rfl|rfl<;>first|trivial|rfl
theorem agM{l:List T3}:(∀y∈YA l,y.cells.length=3)=True:=by refine Ie fun e he=>?_;simp only[YA,A2]at he;obtain⟨x,_,rfl⟩:=he;rfl
theorem BN{l:List T3}{a:Int}{b:Int}{c:Int}:YA l++[.agg [.lit (.int .i64 a),.lit (.int .i64 b),.lit (.int .i64 c)]]=YA (l++[⟨a,b,c⟩]):=by simp[YA]
theorem WZ{l:List T3}{i:Nat}{a:Int}{b:Int}{c:Int}:(YA l).set i (.agg [.lit (.int .i64 a),.lit (.int .i64 b),.lit (.int .i64 c)])=YA (l.set i ⟨a,b,c⟩):=by simp[YA,Hv]
def L1{l:List T3}{i:Nat}:(YA l).take i=YA (l.take i):=by simp[YA]
theorem acC:YA []=[]:=rfl
attribute [go_sem] MY af6 agM BN WZ
structure Ly where
 U:List Nd
 D:List T3
abbrev Ly.av(x:Ly):AV:=.agg [.sl (H4 x.U) false,.sl (YA x.D) false]
abbrev r8(y:Ly):List AV:=[.sl (H4 y.U) false,.sl (YA y.D) false]
structure Pl where
 Q:List (List Int)
 R:List (List Int)
abbrev Pl.av(x:Pl):AV:=.agg [RS x.Q,RS x.R]
abbrev GE(x:Pl):List AV:=[RS x.Q,RS x.R]
def ajG(l:List Int)(a:Nat)(lo hi:Int)(hf:M2 l)(ha:a<=l.length)(h1:-1000000<=lo/\lo<=1000000)(h2:-1000000<=hi/\hi<=1000000)(h:lo<=hi):
  UB prog J9 12 (x5 l a) [.p 0 0 0 0 0,I lo,I hi] (x5 l (RR l a 1)) (I (lo+xo (l.getD a 0) (hi-lo+1))):=by
 have hm:=yN (x:=l.getD a 0) (n:=hi-lo+1) oM;refine MD func12 ntmps12 ?_;intro w e X hC;refine BL ?_;intro K hK;refine⟨oM,oM,?_⟩;refine ZI rfl ((rQ l a (hi-lo+1) hf ha oM)) iO iO iO iO iO ?_;refine uS ?_;refine⟨oM,?_⟩;refine hK _ ?_;clear hK K;(refine A_ (lO rfl iO iO ?_ ?_);all_goals (first|refine uS ?_|exact uX|skip))
def agA(l:List Int)(a:Nat)(es:List Int)(hf:M2 l)(ha:a<=l.length)(h0:0<es.length)(hn:es.length<=9223372036854775807):
  UB prog J9 53 (x5 l a) [.p 0 0 0 0 0,IS es] (x5 l (RR l a 1)) (I (es.getD (xo (l.getD a 0) es.length).toNat 0)):=by
 have hm:=yN (x:=l.getD a 0) (n:=es.length) oM;refine MD func53 ntmps53 ?_;intro w e X hC;refine BL ?_;intro K hK;refine ZI rfl ((rQ l a es.length hf ha oM)) iO iO iO iO iO ?_;refine uS ?_;generalize xo (l.getD a 0) es.length=m at*;have PP:m.toNat<es.length:=oM;first|refine Z6 (ma PP) ?_|exact an (ma PP)
 refine⟨(by(repeat' apply And.intro)<;>first|omega|simp),?_⟩;refine hK _ ?_;clear hK K;(refine A_ (lO rfl iO iO ?_ ?_);all_goals (first|refine uS ?_|exact uX|skip))
def kQ(l:List Int)(x:Int)(hn:l.length<=9223372036854775807):UB prog J9 46 [] [IS l,I x] [] (B (decide (x∈l))):=by
 refine MD func46 ntmps46 ?_;intro w e X hC;refine EP ?_;refine R7 l.length (fun i:Az=>⟨[(0,IS l),(1,I x),(5,I i.2)],[],i.1⟩) (fun i=>∀j,j<i.2->l.getD j 0≠x) (fun j hj=>absurd hj (nZ _)) (ch) ?_;intro ck i hi hj;simp only at hj;refine C0 ?_ ?_<;>intro h
 .have PP:i<l.length:=oM;refine LY (ma PP) ?_;refine MI _ rfl (fun e'=>?_) (fun e'=>?_)
  .refine OD ?_;try rfl
   have:x∈l:=by rw[<-e'];exact aV PP
   exact an @this
  refine uZ ?_;refine⟨(_,i+1),⟨oM,fun j tw=>?_⟩,uO,ch⟩;by_cases ZJ:j=i
  .subst ZJ;exact e'
  exact hj j oM
 refine El ?_;refine OD ?_;try rfl
 have:¬x∈l:=fun hm=>by obtain⟨j,tw,rfl⟩:=G_ hm;exact hj j oM (by simp[tw])
 exact an @this
def ajO{a b:List Int}(h:a.length=b.length)(h':∀j,j<a.length->a.getD j 0=b.getD j 0):a=b:=by refine i7 h fun j h1 h2=>?_;have:=h' j h1;simpa[h1,h2] using this
def fE(a b:List Int)(ha:a.length<=9223372036854775807):UB prog J9 36 [] [IS a,IS b] [] (B (decide (a=b))):=by
 refine MD func36 ntmps36 ?_;intro w e X hC;refine C0 ?_ ?_<;>intro h
 .refine OD ?_;try rfl
  have:a≠b:=fun e=>h (by rw[e]);exact an @this
 refine uZ ?_;have K7:a.length=b.length:=oM;refine uW ?_;refine R7 a.length (fun i:Az=>⟨[(0,IS a),(1,IS b),(5,I i.2)],[],i.1⟩) (fun i=>∀j,j<i.2->a.getD j 0=b.getD j 0) (fun j hj=>absurd hj (nZ _)) (ch) ?_;intro ck i hi hj;simp only at hj;refine EP ?_;refine MI _ rfl (fun h'=>?_) (fun h'=>?_)
 .have PP:i<a.length:=oM;have qT:i<b.length:=oM;refine zr (uI (ma PP) (ma qT)) ?_;refine uW ?_;refine MI _ rfl (fun e'=>?_) (fun e'=>?_)
  .refine OD ?_;try rfl
   have:a≠b:=fun e''=>e' (by rw[e'']);exact an @this
  refine uZ ?_;refine⟨(_,i+1),⟨oM,fun j tw=>?_⟩,uO,ch⟩;by_cases ZJ:j=i
  .subst ZJ;exact Classical.not_not.1 e'
  exact hj j oM
 refine El ?_;refine OD ?_;try rfl
 have:a=b:=ajO K7 fun j h1=>hj j oM;exact an @this
abbrev di(l:List Int)(a:Nat):Hp:=x5 l (min a l.length)
def G7{l:List Int}{a:Nat}:l.getD (min a l.length) 0=l.getD a 0:=by have:=abD (l:=l) (a:=a) (i:=0);simpa[RR] using this
def Yv{l:List Int}{a:Nat}:RR l (min a l.length) 1=min (a+1) l.length:=by unfold RR;omega
def gN(l:List Int)(a:Nat)(n:Int):Int:=xo (l.getD a 0) n
def gR(l:List Int)(a:Nat)(lo hi:Int):Int:=lo+gN l a (hi-lo+1)
def gP(l:List Int)(a:Nat)(es:List Int):Int:=es.getD (gN l a es.length).toNat 0
def G0{l:List Int}{a:Nat}{n:Int}(h:1<=n):0<=gN l a n/\gN l a n<n:=yN h
def Ih(l:List Int)(a:Nat)(n:Int)(hf:M2 l)(hn:n<=9223372036854775807):UB prog J9 10 (di l a) [.p 0 0 0 0 0,I n] (di l (a+1)) (I (gN l a n)):=by
 have:=rQ l (min a l.length) n hf oM hn
 rwa[G7,Yv]at this
def om(l:List Int)(a:Nat)(lo hi:Int)(hf:M2 l)(h1:-1000000<=lo/\lo<=1000000)(h2:-1000000<=hi/\hi<=1000000)(h:lo<=hi):
  UB prog J9 12 (di l a) [.p 0 0 0 0 0,I lo,I hi] (di l (a+1)) (I (gR l a lo hi)):=by
 have:=ajG l (min a l.length) lo hi hf oM h1 h2 h
 rwa[G7,Yv]at this
def Jn(l:List Int)(a:Nat)(es:List Int)(hf:M2 l)(h0:0<es.length)(hn:es.length<=9223372036854775807):
  UB prog J9 53 (di l a) [.p 0 0 0 0 0,IS es] (di l (a+1)) (I (gP l a es)):=by
 have:=agA l (min a l.length) es hf oM h0 hn
 rwa[G7,Yv]at this
def So(es:List Int)(x:Int):List Int:=es.filter fun y=>decide (y≠x)
def gO(l:List Int)(a:Nat)(es:List Int)(x:Int):Int×Nat:=
 if So es x=[] then(-1,a) else((So es x).getD (gN l a (So es x).length).toNat 0,a+1)
def oR{es:List Int}{x:Int}{i:Nat}(h:i<es.length):So (es.take (i+1)) x=So (es.take i) x++(if es.getD i 0≠x then[es.getD i 0] else[]):=by rw[wr,gG h,rK,So,aT,gE,gG h];simp only[XL,zV,jw,So];by_cases h:es[i]=x<;>simp[h]
def WX(l:List Int)(a:Nat)(es:List Int)(x:Int)(hf:M2 l)(hn:es.length<=1000):
  UB prog J9 100 (di l a) [.p 0 0 0 0 0,IS es,I x] (di l (gO l a es x).2) (I (gO l a es x).1):=by
 refine MD func100 ntmps100 ?_;intro w e X hC;refine EP ?_;refine AJ es.length (fun i:Az=>⟨[(0,.p 0 0 0 0 0),(1,IS es),(2,I x),(7,.l 107 2 0 (So (es.take i.2) x).length),(8,I i.2)],(107,some (2,.own 3 1 (tk (So (es.take i.2) x))))::di l a,i.1⟩) (ch) ?_;intro ck i hi;refine C0 ?_ ?_<;>intro h
 .have PP:i<es.length:=oM;refine aH (ma PP) ?_;have e1:=oR (x:=x) PP;have s6:(So (es.take i) x).length<=es.length:=Jz (aU _ _) xF;refine uW ?_;refine MI _ rfl (fun e'=>?_) (fun e'=>?_)
  .refine aH (ma PP) ?_;rw[iP e']at e1;refine⟨(_,i+1),uO,uO,.of (lR _) (.cons ?_ aq) (.cons rfl (.cons rfl (.cons rfl (.cons ?_ bi))))⟩
   .exact an @e1
   exact an @e1
  rw[iN e',MP]at e1;refine uZ ?_;refine⟨(_,i+1),uO,uO,.of (lR _) (.cons ?_ aq) (.cons rfl (.cons rfl (.cons rfl (.cons ?_ bi))))⟩
  .exact an @e1
  exact an @e1
 refine El ?_;have jk:i=es.length:=oM;subst jk;rw[Sy];have s6:(So es x).length<=es.length:=aU _ _;refine EP ?_;refine MI _ rfl (fun e'=>?_) (fun e'=>?_)
 .refine uZ ?_;have e1:So es x=[]:=EH.1 oM;(refine A_ (lO rfl iO iO ?_ ?_);all_goals (first|refine uS ?_|exact uX|skip))
  .simp only[gO,iP e1]
  simp only[gO,iP e1]
 have e1:¬So es x=[]:=fun h=>e' (by rw[h];rfl);have e2:0<(So es x).length:=oM;have hm:=G0 (l:=l) (a:=a) (n:=(So es x).length) oM;refine BL ?_;intro K hK;refine ZI rfl ((Ih l a _ hf oM)) iO iO iO iO iO ?_;refine uS ?_;have e3:(gN l a (So es x).length).toNat<(So es x).length:=oM;first|refine Z6 (ma e3) ?_|exact an (ma e3)
 refine⟨(by(repeat' apply And.intro)<;>first|omega|simp),e3,?_⟩;refine hK _ ?_;clear hK K;(refine A_ (lO rfl iO iO ?_ ?_);all_goals (first|refine uS ?_|exact uX|skip))
 .simp only[gO,iN e1]
 simp only[gO,iN e1]
def gS(l:List Int)(a:Nat)(i z:Int)(kinds to:List Int):Nd×Nat:=
 let kd:=gP l a kinds
 let ln:=gR l (a+1) 1 3
 let f:=gO l (a+2) to (-1)
 if kd=5 then(⟨.empty,kd,ln+1,z,[i,f.1]⟩,f.2)
 else if kd=4 then
  let g:=gO l f.2 to f.1
  if g.1<0 then(⟨.empty,2,ln,z,[f.1]⟩,g.2) else(⟨.empty,kd,ln,z,[f.1,g.1]⟩,g.2)
 else(⟨.empty,kd,ln,z,[f.1]⟩,f.2)
def QU{l:List Int}{a:Nat}{lo hi:Int}(h:lo<=hi):lo<=gR l a lo hi/\gR l a lo hi<=hi:=by have:=G0 (l:=l) (a:=a) (n:=hi-lo+1) oM;unfold gR;omega
def eG(l:List Int)(a:Nat)(i z:Int)(kinds to:List Int)(hf:M2 l)(hk:0<kinds.length/\kinds.length<=1000)(hn:to.length<=1000):
  UB prog J9 45 (di l a) [.p 0 0 0 0 0,I i,I z,IS kinds,IS to] (di l (gS l a i z kinds to).2) (gS l a i z kinds to).1.av:=by
 have hr:=QU (l:=l) (a:=a+1) (lo:=1) (hi:=3) oM;refine MD func45 ntmps45 ?_;intro w e X hC;refine BL ?_;intro K hK;refine ZI rfl ((Jn l a _ hf hk.1 oM)) iO iO iO iO iO ?_;refine uS ?_;refine ZI rfl ((om l (a+1) 1 3 hf oM oM oM)) iO iO iO iO iO ?_;refine uS ?_;refine hK _ ?_;clear hK K;refine uR ?_;intro K hK;refine ZI rfl ((WX l (a+1+1) to (-1) hf hn)) iO iO iO iO iO ?_;refine uS ?_;refine hK _ ?_;clear hK K;refine uR ?_;intro K hK;refine hK _ ?_;clear hK K;refine C0 ?_ ?_<;>intro h
 .refine WE ?_;rw[show f45.results.toList=[.cell 10 82] from rfl];(refine(AK Xs rfl vE vE ?_ ?_);all_goals (first|refine b5 ?_|exact aG|skip))
  .simp only[gS,iP h];rfl
  simp only[gS,iP h]
 refine C0 ?_ ?_<;>intro h2
 .refine BL ?_;intro K hK;refine ZI rfl ((WX l (gO l (a+1+1) to (-1)).2 to (gO l (a+1+1) to (-1)).1 hf hn)) iO iO iO iO iO ?_;refine uS ?_;refine hK _ ?_;clear hK K;refine C0 ?_ ?_<;>intro h3
  .refine WE ?_;rw[show f45.results.toList=[.cell 10 82] from rfl];(refine(AK Xs rfl vE vE ?_ ?_);all_goals (first|refine b5 ?_|exact aG|skip))
   .simp only[gS,iN h,iP h2,iP h3];rfl
   simp only[gS,iN h,iP h2,iP h3]
  refine WE ?_;rw[show f45.results.toList=[.cell 10 82] from rfl];(refine(AK Xs rfl vE vE ?_ ?_);all_goals (first|refine b5 ?_|exact aG|skip))
  .simp only[gS,iN h,iP h2,iN h3];rfl
  simp only[gS,iN h,iP h2,iN h3]
 refine WE ?_;rw[show f45.results.toList=[.cell 10 82] from rfl];(refine(AK Xs rfl vE vE ?_ ?_);all_goals (first|refine b5 ?_|exact aG|skip))
 .simp only[gS,iN h,iN h2];rfl
 simp only[gS,iN h,iN h2]
def Ff(l:List Int)(x:Nd)(i w:Nat)(o:List T3×Nat):List T3×Nat:=
 if o.1.length<24 then(if gN l o.2 3=0\/((w:Int)=x.ln-1/\x.kd=6) then(o.1++[⟨2,i,w⟩],o.2+1) else(o.1,o.2+1)) else o
def Fv(l:List Int)(i w:Nat)(o:List T3×Nat):List T3×Nat:=
 if o.1.length<24 then(if gN l o.2 2=0 then(o.1++[⟨1,i,w⟩],o.2+1) else(o.1,o.2+1)) else o
def kN(l:List Int)(x:Nd)(i:Nat)(o:List T3×Nat):Nat->List T3×Nat
 |0=>o|w+1=>Fv l i w (Ff l x i w (kN l x i o w))
def Qg(l:List Int)(xs:List Nd)(a:Nat):Nat->List T3×Nat
 |0=>([],a)|i+1=>kN l (xs.getD i default) i (Qg l xs a i) (xs.getD i default).ln.toNat
def gD(l:List Int)(a:Nat)(xs:List Nd):List T3×Nat:=Qg l xs a xs.length
def rj{l:List Int}{x:Nd}{i w:Nat}{o:List T3×Nat}(h:o.1.length<=24):(Ff l x i w o).1.length<=24:=by
 unfold Ff;split
 .split<;>simp<;>omega
 exact h
def anL{l:List Int}{i w:Nat}{o:List T3×Nat}(h:o.1.length<=24):(Fv l i w o).1.length<=24:=by
 unfold Fv;split
 .split<;>simp<;>omega
 exact h
theorem Pd{l:List Int}{x:Nd}{i:Nat}{o:List T3×Nat}(h:o.1.length<=24):∀w,(kN l x i o w).1.length<=24
 |0=>h|w+1=>anL (rj (Pd h w))
theorem sN{l:List Int}{xs:List Nd}{a:Nat}:∀i,(Qg l xs a i).1.length<=24
 |0=>by simp[Qg]|i+1=>Pd (sN i) _
def atB(l:List Int)(a:Nat)(xs:List Nd)(ds:List T3)(hf:M2 l)(hn:xs.length<=1000)(hx:∀i,i<xs.length->0<=(xs.getD i default).ln/\(xs.getD i default).ln<=1000):
  UB prog J9 47 (di l a) [.p 0 0 0 0 0,(Ly.mk xs ds).av] (di l (gD l a xs).2) (.sl (YA (gD l a xs).1) false):=by
 refine MD func47 ntmps47 ?_;intro w e X hC;refine EP ?_;refine AJ xs.length (fun i:Az=>⟨[(0,.p 0 0 0 0 0),(3,.p 103 1 0 0 0),(5,.l 105 3 0 (Qg l xs a i.2).1.length),(6,I i.2)],(105,some (3,.own 108 3 (YA (Qg l xs a i.2).1)))::(103,some (1,.box [.sl (H4 xs) false,.sl (YA ds) false]))::di l (Qg l xs a i.2).2,i.1⟩) (ch) ?_;intro ck i hi;refine C0 ?_ ?_<;>intro h
 .have PP:i<xs.length:=oM;have Fr:=hx i PP;refine EP ?_;refine AJ ((xs.getD i default).ln.toNat) (fun j:Az=>⟨[(0,.p 0 0 0 0 0),(3,.p 103 1 0 0 0),(5,.l 105 3 0 (kN l (xs.getD i default) i (Qg l xs a i) j.2).1.length),(6,I i),(7,I j.2)],(105,some (3,.own 108 3 (YA (kN l (xs.getD i default) i (Qg l xs a i) j.2).1)))::(103,some (1,.box [.sl (H4 xs) false,.sl (YA ds) false]))::di l (kN l (xs.getD i default) i (Qg l xs a i) j.2).2,j.1⟩) (ch) ?_;intro ck j hj;have S0:=Pd (l:=l) (x:=xs.getD i default) (i:=i) (sN (l:=l) (xs:=xs) (a:=a) i) j;have e1:kN l (xs.getD i default) i (Qg l xs a i) (j+1)=Fv l i j (Ff l (xs.getD i default) i j (kN l (xs.getD i default) i (Qg l xs a i) j)):=rfl;generalize e4:kN l (xs.getD i default) i (Qg l xs a i) j=o at*;generalize PI:xs.getD i default=x at*;refine Fm (uI (bp PP) @PI) ?_ ?_<;>intro h2
  .have Se:j<x.ln.toNat:=oM;refine cx (uI (bp PP) @PI) ?_;refine GA ?_;refine JP (fun q:Nat=>⟨[(0,.p 0 0 0 0 0),(3,.p 103 1 0 0 0),(5,.l 105 3 0 (Ff l x i j o).1.length),(6,I i),(7,I j)],(105,some (3,.own 108 3 (YA (Ff l x i j o).1)))::(103,some (1,.box [.sl (H4 xs) false,.sl (YA ds) false]))::di l (Ff l x i j o).2,q⟩) (fun _=>True) ?_ ?_
   .by_cases c1:o.1.length<24
    .have d1:=oN ((o.1.length:Int)<24);refine nF (uI (bp PP) (uI @PI @d1)) ?_;intro K hK;refine ZI rfl ((Ih l o.2 3 hf oM)) iO iO iO iO iO ?_;refine uS ?_;have push (e':gN l o.2 3=0\/((j:Int)=x.ln-1/\x.kd=6)):Ff l x i j o=(o.1++[⟨2,i,j⟩],o.2+1):=by rw[Ff,iP c1,iP e']
     have pass (e':¬(gN l o.2 3=0\/((j:Int)=x.ln-1/\x.kd=6))):Ff l x i j o=(o.1,o.2+1):=by rw[Ff,iP c1,iN e']
     by_cases c2:gN l o.2 3=0
     .have d2:decide (gN l o.2 3=0)=true:=dT c2;first|refine Z6 @d2 ?_|exact an @d2
      refine hK _ ?_;clear hK K;refine uT ?_;refine aH @BN ?_;rw[push (.inl c2)];refine⟨_,trivial,ch⟩
     have d2:decide (gN l o.2 3=0)=false:=dF c2;first|refine Z6 @d2 ?_|exact an @d2
     by_cases c3:(j:Int)=x.ln-1
     .have d3:decide ((j:Int)=x.ln-1)=true:=dT c3;first|refine Z6 (uI @d3 (uI (bp PP) @PI)) ?_|exact an (uI @d3 (uI (bp PP) @PI))
      refine⟨(by(repeat' apply And.intro)<;>first|omega|simp),?_⟩;by_cases c4:x.kd=6
      .have d4:decide (x.kd=6)=true:=dT c4;refine hK _ ?_;clear hK K;simp only[d4];refine uT ?_;refine aH @BN ?_;rw[push (.inr ⟨c3,c4⟩)];refine⟨_,trivial,ch⟩
      have d4:decide (x.kd=6)=false:=dF c4;refine hK _ ?_;clear hK K;simp only[d4];refine uF ?_;rw[pass (fun h=>h.elim c2 (fun h=>c4 h.2))];refine md ⟨_,trivial,ch⟩
     have d3:decide ((j:Int)=x.ln-1)=false:=dF c3;first|refine Z6 @d3 ?_|exact an @d3
     refine hK _ ?_;clear hK K;refine uF ?_;rw[pass (fun h=>h.elim c2 (fun h=>c3 h.1))];refine md ⟨_,trivial,ch⟩
    have d1:=Vj ((o.1.length:Int)<24);refine QT (uI (bp PP) (uI @PI @d1)) ?_;rw[show Ff l x i j o=o by rw[Ff,iN c1]];refine md ⟨_,trivial,ch⟩
   intro ck _;have X7:(Ff l x i j o).1.length<=24:=rj S0;generalize Ff l x i j o=o1 at*;by_cases c1:o1.1.length<24
   .have d1:=oN ((o1.1.length:Int)<24);refine nF @d1 ?_;intro K hK;refine ZI rfl ((Ih l o1.2 2 hf oM)) iO iO iO iO iO ?_;refine uS ?_;refine hK _ ?_;clear hK K;refine Wc ?_ ?_<;>intro c2
    .refine aH @BN ?_;have e2:Fv l i j o1=(o1.1++[⟨1,i,j⟩],o1.2+1):=by rw[Fv,iP c1,iP c2]
     exact nX (_,j+1) (wK (uI @e1 @e2) (uI @e1 @e2))
    refine uZ ?_;have e2:Fv l i j o1=(o1.1,o1.2+1):=by rw[Fv,iP c1,iN c2]
    exact nX (_,j+1) (wK (uI @e1 @e2) (uI @e1 @e2))
   have d1:=Vj ((o1.1.length:Int)<24);refine QT @d1 ?_;have e2:Fv l i j o1=o1:=by rw[Fv,iN c1]
   refine uZ ?_;exact nX (_,j+1) (wK (uI @e1 @e2) (uI @e1 @e2))
  refine El ?_;have tw:j=x.ln.toNat:=oM;have e3:Qg l xs a (i+1)=kN l x i (Qg l xs a i) j:=by rw[tw,<-PI];rfl
  refine uZ ?_;exact nX (_,i+1) (wK (uI @e3 @e4) (uI @e3 @e4))
 refine El ?_;have jk:i=xs.length:=oM;subst jk;refine uZ ?_;(refine A_ (lO rfl iO iO ?_ ?_);all_goals (first|refine uS ?_|exact uX|skip))
 .rfl
 rfl
def G8(lo:Nat):Nat->List Int
 |0=>[]|k+1=>G8 lo k++[((lo+k:Nat):Int)]
theorem C2(lo:Nat):∀k,(G8 lo k).length=k
 |0=>rfl|k+1=>by rw[G8,aL,C2 lo k];rfl
def p4(i:Nat):ByteArray:=strOf [UInt8.ofNat (65+i)]
def Oa(A n i:Nat):List Int:=G8 (i+1) (A - i)++[((n-2:Nat):Int)]
def iz(A n i:Nat):List Int:=G8 (max i A+1) (n-2-(max i A+1))++[((n-1:Nat):Int)]
def Pe(l:List Int)(A B n i a:Nat):Nd×Nat:=
 if i=0 then gS l a i 0 [1] (Oa A n i)
 else if i<A then gS l a i 0 [2,3,4,5,3] (Oa A n i)
 else if i=A then(⟨.empty,6,gR l a 1 3,0,[((n-2:Nat):Int),gP l (a+1) (iz A n i)]⟩,a+2)
 else if i<A+1+B then
  let x:=gS l a i 1 [2,4,5,7] (iz A n i)
  if x.1.kd=7 then({x.1 with ln:=0},x.2) else x
 else if i<n-2 then(⟨.empty,8,0,1,[]⟩,a)
 else(⟨.empty,9,0,((i-(n-2):Nat):Int),[]⟩,a)
def TO(l:List Int)(A B n a:Nat):Nat->List Nd×Nat
 |0=>([],a)|i+1=>((TO l A B n a i).1++[{(Pe l A B n i (TO l A B n a i).2).1 with nm:=p4 i}],(Pe l A B n i (TO l A B n a i).2).2)
def ZS(x:Nd×Bool):AV:=.agg [S x.1.nm,I x.1.kd,I x.1.ln,I x.1.zn,if x.2 then .Rc 3 1 (tk x.1.ex) else IS x.1.ex]
def Iz(l:List (Nd×Bool)):List AV:=l.map ZS
def lc(i:Nat)(x:Nd):Nd:={x with ex:=((i+1:Nat):Int)::x.ex.drop 1}
def uN(xs:List Nd):Nat->List (Nd×Bool)
 |0=>xs.map fun x=>(x,false)|i+1=>if(xs.getD i default).kd≠5/\((i+1:Nat):Int)∉(xs.getD i default).ex then(uN xs i).set i (lc i (xs.getD i default),true) else uN xs i
def RQ(xs:List Nd)(i:Nat):List Nd:=(uN xs i).map (·.1)
def P_(l:List (Nd×Bool)):(Iz l).length=l.length:=by simp[Iz]
theorem Ee(xs:List Nd):∀i,(uN xs i).length=xs.length
 |0=>by simp[uN]|i+1=>by rw[uN];split<;>simp[Ee xs i]
theorem D7{xs:List Nd}{j:Nat}:∀i,i<=j->j<xs.length->(Iz (uN xs i)).getD j .bad=(xs.getD j default).av
 |0,_,h=>by simp[Iz,uN,h,ZS]|i+1,h,hj=>by
  rw[uN];split
  .have:=D7 i oM hj;rw[Iz,Hv,gE,UX oM,<-gE];exact this
  exact D7 i oM hj
def Pw(xs:List Nd):H4 xs=Iz (xs.map fun x=>(x,false)):=by simp[H4,Iz,ZS]
def Vi{l:List (Nd×Bool)}{i:Nat}{nm:ByteArray}{kd ln zn:Int}{ex:List Int}:
  (Iz l).set i (.agg [.lit (.string nm),.lit (.int .i64 kd),.lit (.int .i64 ln),.lit (.int .i64 zn),.Rc 3 1 (tk ex)])=Iz (l.set i (⟨nm,kd,ln,zn,ex⟩,true)):=by
 simp[Iz,Hv,ZS]
def aec(n:Nat)(hp:Hp)(v:Value):fz n hp (.lit v)=.lit v:=fV
def bJ(n:Nat)(hp:Hp)(es:List AV)(b:Bool):fz n hp (.sl es b)=.sl es false:=fV
def aaR(n:Nat)(hp:Hp)(t k:Nat)(es:List AV):fz n hp (.Rc t k es)=.sl es false:=fV
def nH(l:List (Nd×Bool))(n:Nat)(hp:Hp):(Iz l).map (cK (fz n hp))=H4 (l.map (·.1)):=by simp only[Iz,H4,R8];refine zT fun x _=>?_;obtain⟨x,b⟩:=x;cases b<;>simp[ZS,cK,aec,bJ,aaR]
def MX(l:List (Nd×Bool))(n:Nat)(hp:Hp):(∀e∈Iz l,∀c∈e.cells,Xa n hp c)=True:=by refine Ie fun e he c hc=>?_;obtain⟨x,_,rfl⟩:=A2.1 he;obtain⟨x,b⟩:=x;simp only[ZS,AV.cells,rX,AY,xN]at hc;rcases hc with rfl|rfl|rfl|rfl|rfl<;>cases n<;>first|trivial|(cases b<;>trivial)
def Tf(l:List (Nd×Bool))(n:Nat)(hp:Hp):((Iz l).flatMap fun e=>e.cells.flatMap (qg n hp))=[]:=by refine LI fun e he=>LI fun c hc=>?_;obtain⟨x,_,rfl⟩:=A2.1 he;obtain⟨x,b⟩:=x;simp only[ZS,AV.cells,rX,AY,xN]at hc;rcases hc with rfl|rfl|rfl|rfl|rfl<;>cases n<;>first|rfl|(cases b<;>rfl)
def gL(l:List Int)(a:Nat):Ly×Nat:=
 let A:=(gR l a 1 3).toNat
 let B:=(gR l (a+1) 0 3).toNat
 let n:=A+1+B+(gR l (a+2) 1 2).toNat+2
 let r:=TO l A B n (a+3) n
 let xs:=if 0<gN l r.2 4 then RQ r.1 A else r.1
 (⟨xs,(gD l (r.2+1) xs).1⟩,(gD l (r.2+1) xs).2)
theorem Iu(l:List Int)(A B n a:Nat):∀i,(TO l A B n a i).1.length=i
 |0=>rfl|i+1=>by rw[TO,aL,Iu l A B n a i];rfl
def Ef{l:List Int}{a:Nat}{i z:Int}{kinds to:List Int}:1<=(gS l a i z kinds to).1.ex.length/\(gS l a i z kinds to).1.ex.length<=2:=by
 unfold gS;simp only;split
 .simp
 split
 .split<;>simp
 simp
theorem U3{l:List Int}{A B n a j:Nat}:∀i,j<i->(TO l A B n a i).1.getD j default={(Pe l A B n j (TO l A B n a j).2).1 with nm:=p4 j}
 |0,h=>absurd h (nZ _)|i+1,h=>by
  have hl:=Iu l A B n a i;rw[TO];by_cases hj:j=i
  .subst hj;simp only[gE];rw[Ga oM,hl];simp
  have ih:=U3 (l:=l) (A:=A) (B:=B) (n:=n) (a:=a) (j:=j) i oM;rw[gE]at ih ⊢;rw[fd oM];exact ih
def acR{l:List Int}{A B n a i j:Nat}(h:j<i)(hA:0<A)(hj:j<A):1<=((TO l A B n a i).1.getD j default).ex.length/\((TO l A B n a i).1.getD j default).ex.length<=2:=by
 rw[U3 i h];simp only[Pe];by_cases h0:j=0
 .rw[iP h0];exact Ef
 rw[iN h0,iP hj];exact Ef
def kq(k:Nat)(x:Nd):Nd:=if x.kd≠5/\((k+1:Nat):Int)∉x.ex then lc k x else x
def ld{k:Nat}{x:Nd}:(kq k x).ln=x.ln/\(kq k x).kd=x.kd/\(kq k x).zn=x.zn/\(kq k x).nm=x.nm:=by unfold kq;split<;>exact⟨rfl,rfl,rfl,rfl⟩
def lG{xs:List Nd}{i:Nat}:(RQ xs i).length=xs.length:=by rw[RQ,E3,Ee]
theorem Cg{xs:List Nd}{k:Nat}(hk:k<xs.length):∀i,(RQ xs i).getD k default=if k<i then kq k (xs.getD k default) else xs.getD k default
 |0=>by rw[iN oM,RQ,uN,R8];exact rD (fun l=>List.getD l k default) (cC xs)|i+1=>by
  have ih:=Cg hk i;have e:RQ xs (i+1)=if(xs.getD i default).kd≠5/\((i+1:Nat):Int)∉(xs.getD i default).ex then(RQ xs i).set i (lc i (xs.getD i default)) else RQ xs i:=by
   rw[RQ,uN];split
   .rw[Hv];rfl
   rfl
  rw[e];by_cases mN:k=i
  .subst mN;rw[iN (jx k)]at ih;rw[iP (fQ k),kq];split
   .have PP:k<(RQ xs k).length:=by rw[lG];exact hk
    rw[gE,Z2 PP];rfl
   exact ih
  have hs:(if k<i+1 then kq k (xs.getD k default) else xs.getD k default)=if k<i then kq k (xs.getD k default) else xs.getD k default:=by
   by_cases h:k<i
   .rw[iP h,iP oM]
   rw[iN h,iN oM]
  rw[hs,<-ih];split
  .rw[gE,UX (fun h=>mN h.symm),<-gE]
  rfl
def ajl{l:List Int}{a:Nat}{i z:Int}{kinds to:List Int}:1<=(gS l a i z kinds to).1.ln/\(gS l a i z kinds to).1.ln<=4:=by
 have:=QU (l:=l) (a:=a+1) (lo:=1) (hi:=3) oM;unfold gS;simp only;split
 .simp only;omega
 split
 .split<;>(simp only;omega)
 simp only;omega
def aeJ{l:List Int}{A B n i a:Nat}:0<=(Pe l A B n i a).1.ln/\(Pe l A B n i a).1.ln<=4:=by
 have:=QU (l:=l) (a:=a) (lo:=1) (hi:=3) oM;have h2 (z kinds to):=ajl (l:=l) (a:=a) (i:=(i:Int)) (z:=z) (kinds:=kinds) (to:=to);unfold Pe;split
 .have:=h2 0 [1] (Oa A n i);omega
 split
 .have:=h2 0 [2,3,4,5,3] (Oa A n i);omega
 split
 .simp only;omega
 split
 .have:=h2 1 [2,4,5,7] (iz A n i);simp only;split
  .simp
  omega
 split<;>simp
def arw{l:List Int}{A B n a i j:Nat}(h:j<i):0<=((TO l A B n a i).1.getD j default).ln/\((TO l A B n a i).1.getD j default).ln<=4:=by rw[U3 i h];exact aeJ
def alQ(l:List Int)(a:Nat)(hf:M2 l):
  UB prog J9 9 (di l a) [.p 0 0 0 0 0] (di l (gL l a).2) (gL l a).1.av:=by
 obtain⟨hA1,hA2⟩:=QU (l:=l) (a:=a) (lo:=1) (hi:=3) oM;obtain⟨hB1,Ni⟩:=QU (l:=l) (a:=a+1) (lo:=0) (hi:=3) oM;obtain⟨hC1,hC2⟩:=QU (l:=l) (a:=a+2) (lo:=1) (hi:=2) oM;have sA:=om l a 1 3 hf oM oM oM;have sB:=om l (a+1) 0 3 hf oM oM oM;have sC:=om l (a+2) 1 2 hf oM oM oM;unfold gL;obtain⟨A,hA⟩:∃A:Nat,gR l a 1 3=A:=⟨(gR l a 1 3).toNat,oM⟩;obtain⟨B,hB⟩:∃A:Nat,gR l (a+1) 0 3=A:=⟨(gR l (a+1) 0 3).toNat,oM⟩;obtain⟨D,hD⟩:∃A:Nat,gR l (a+2) 1 2=A:=⟨(gR l (a+2) 1 2).toNat,oM⟩;have hA3:1<=A/\A<=3:=oM;have hB3:B<=3:=oM;have hD3:1<=D/\D<=2:=oM;simp only[hA,hB,hD,Mv];refine MD func9 ntmps9 ?_;intro w e X hC;refine BL ?_;intro K hK;refine ZI rfl (sA) iO iO iO iO iO ?_;refine uS ?_;refine ZI rfl (sB) iO iO iO iO iO ?_;refine uS ?_;refine ZI rfl (sC) iO iO iO iO iO ?_;refine uS ?_;refine hK _ ?_;clear hK K;refine uZ ?_;obtain⟨n,hn⟩:∃n,n=A+1+B+D+2:=⟨_,rfl⟩;rw[<-hn];have rN:(A:Int)+1+B+D+2=n:=oM;have Vc:(n:Int)-2=((n-2:Nat):Int):=oM;have ajc:A+4<=n/\n<=11:=oM;refine uW ?_;refine PV (fun i:Nat×Az=>⟨[(0,.p 0 0 0 0 0),(2,.p 102 1 0 0 0),(3,I A),(4,I B),(6,I n),(7,I A),(8,I (n-2:Nat)),(9,.p 109 24 0 0 0),(10,I i.2.1)],
  (109,some (24,.box [Zd i.2.1 (.l 239 i.2.2 0 i.2.1),.sl [] true]))::(239,KA i.2.1 (i.2.2,.own 82 5 (H4 (TO l A B n (a+3) i.2.1).1)))::(102,some (1,.box [.sl [] true,.sl [] true]))::di l (TO l A B n (a+3) i.2.1).2,i.1⟩)
  (fun i=>i.2.1<=n) (fun i=>n - i.2.1) (_,0,0) (zL _) (wT (uI @hA (uI @hB (uI (show a+1+1=a+2 from rfl) (uI @hD (uI @rN @Vc)))))) ?_
 rintro⟨ck,i,g⟩ hi;simp only at hi;refine C0 ?_ ?_<;>intro h
 .refine uZ ?_;generalize e1:(TO l A B n (a+3) i).1=xs;generalize e2:(TO l A B n (a+3) i).2=a';refine uW ?_;refine AJ (A - i) (fun j:Az=>⟨[(0,.p 0 0 0 0 0),(2,.p 102 1 0 0 0),(3,I A),(4,I B),(6,I n),(7,I A),(8,I (n-2:Nat)),(9,.p 109 24 0 0 0),(10,I i),(11,.l 111 (ck+3) 0 j.2),(12,.l 112 (ck+4) 0 0),(13,I (i+1+j.2:Nat))],
   (111,some (ck+3,.own 3 1 (tk (G8 (i+1) j.2))))::(112,some (ck+4,.own 3 1 []))::(109,some (24,.box [Zd i (.l 239 g 0 i),.sl [] true]))::(239,KA i (g,.own 82 5 (H4 xs)))::(102,some (1,.box [.sl [] true,.sl [] true]))::di l a',j.1⟩) (ch) ?_
  intro ck2 j hj;refine C0 ?_ ?_<;>intro h2
  .have U4:=C2 (i+1) j;refine uZ ?_;refine⟨(_,j+1),uO,uO,.of (lR _) (by repeat first|exact Zf.nil|refine He ?_|(refine Zf.cons ?_ ?_;(focus (simp only[go_sem,G8];done)))) My⟩
  refine El ?_;have tw:j=A - i:=oM;subst tw;have U4:=C2 (i+1) (A - i);refine uZ ?_;have hm:(if(i:Int)<A then(A:Int) else i)+1=((max i A+1:Nat):Int):=by split<;>omega
  have qE:(Oa A n i).length=A - i+1:=by rw[Oa,aL,U4];rfl
  refine uW ?_;refine AJ (n-2-(max i A+1)) (fun j:Az=>⟨[(0,.p 0 0 0 0 0),(2,.p 102 1 0 0 0),(3,I A),(4,I B),(6,I n),(7,I A),(8,I (n-2:Nat)),(9,.p 109 24 0 0 0),(10,I i),(11,.l 111 (ck+3) 0 (A - i+1)),(12,.l 112 (ck+4) 0 j.2),(14,I (max i A+1+j.2:Nat))],
   (111,some (ck+3,.own 3 1 (tk (Oa A n i))))::(112,some (ck+4,.own 3 1 (tk (G8 (max i A+1) j.2))))::(109,some (24,.box [Zd i (.l 239 g 0 i),.sl [] true]))::(239,KA i (g,.own 82 5 (H4 xs)))::(102,some (1,.box [.sl [] true,.sl [] true]))::di l a',j.1⟩) (wT @hm) ?_
  intro ck3 j hj;refine C0 ?_ ?_<;>intro h3
  .have U4:=C2 (max i A+1) j;refine uZ ?_;refine⟨(_,j+1),uO,uO,.of (lR _) (by repeat first|exact Zf.nil|refine He ?_|(refine Zf.cons ?_ ?_;(focus (simp only[go_sem,G8];done)))) My⟩
  refine El ?_;have tw:j=n-2-(max i A+1):=oM;subst tw;have U4:=C2 (max i A+1) (n-2-(max i A+1));have S0:(iz A n i).length=n-2-(max i A+1)+1:=by rw[iz,aL,U4];rfl
  have yU:(n:Int)-1=((n-1:Nat):Int):=oM;refine cx @yU ?_;refine uR ?_;refine SU ?_;refine AR (s':=⟨[(0,.p 0 0 0 0 0),(2,.p 102 1 0 0 0),(3,I A),(4,I B),(6,I n),(7,I A),(8,I (n-2:Nat)),(9,.p 109 24 0 0 0),(10,I i),(11,IS (Oa A n i)),(12,IS (iz A n i)),(15,.p 115 (ck3+9) 0 0 0)],(115,some (ck3+9,.box [S .empty,I 0,I 0,I 0,.sl [] true]))::(109,some (24,.box [Zd i (.l 239 g 0 i),.sl [] true]))::(239,KA i (g,.own 82 5 (H4 xs)))::(102,some (1,.box [.sl [] true,.sl [] true]))::di l a',_⟩) (wT (uI @qE @S0)) ?_;refine GA ?_;refine JP (fun q:Az=>⟨[(0,.p 0 0 0 0 0),(2,.p 102 1 0 0 0),(3,I A),(4,I B),(6,I n),(7,I A),(8,I (n-2:Nat)),(9,.p 109 24 0 0 0),(10,I i),(15,.p 115 q.2 0 0 0)],(115,some (q.2,.box [S (Pe l A B n i a').1.nm,I (Pe l A B n i a').1.kd,I (Pe l A B n i a').1.ln,I (Pe l A B n i a').1.zn,IS (Pe l A B n i a').1.ex]))::(109,some (24,.box [Zd i (.l 239 g 0 i),.sl [] true]))::(239,KA i (g,.own 82 5 (H4 xs)))::(102,some (1,.box [.sl [] true,.sl [] true]))::di l (Pe l A B n i a').2,q.1⟩) (fun _=>True) ?_ ?_
  .refine C0 ?_ ?_<;>intro c1
   .refine uR ?_;intro K hK;refine ZI rfl ((eG l a' i 0 [1] (Oa A n i) hf ⟨dM,dM⟩ oM)) iO iO iO iO iO ?_;refine uS ?_;refine hK _ ?_;clear hK K;have e3:Pe l A B n i a'=gS l a' i 0 [1] (Oa A n i):=iP oM;simp only[e3];refine uW ?_;refine⟨(_,_),trivial,ch⟩
   have c1':¬i=0:=oM;refine C0 ?_ ?_<;>intro c2
   .refine uR ?_;intro K hK;refine ZI rfl ((eG l a' i 0 [2,3,4,5,3] (Oa A n i) hf ⟨dM,dM⟩ oM)) iO iO iO iO iO ?_;refine uS ?_;refine hK _ ?_;clear hK K;have e3:Pe l A B n i a'=gS l a' i 0 [2,3,4,5,3] (Oa A n i):=by rw[Pe,iN c1',iP oM]
    simp only[e3];refine uW ?_;refine⟨(_,_),trivial,ch⟩
   have c2':¬i<A:=oM;refine C0 ?_ ?_<;>intro c3
   .have c3':i=A:=oM;refine uR ?_;intro K hK;refine ZI rfl ((om l a' 1 3 hf oM oM oM)) iO iO iO iO iO ?_;refine uS ?_;have SI:1<=(iz A n i).length:=oM;have iE:=G0 (l:=l) (a:=a'+1) (n:=(iz A n i).length) oM;refine ZI rfl ((Ih l (a'+1) _ hf oM)) iO iO iO iO iO ?_;refine uS ?_;have qf:(gN l (a'+1) (iz A n i).length).toNat<(iz A n i).length:=oM;first|refine Z6 (ma qf) ?_|exact an (ma qf)
    refine⟨(by(repeat' apply And.intro)<;>first|omega|simp),?_⟩;refine hK _ ?_;clear hK K;have e3:Pe l A B n i a'=(⟨.empty,6,gR l a' 1 3,0,[((n-2:Nat):Int),gP l (a'+1) (iz A n i)]⟩,a'+2):=by rw[Pe,iN c1',iN c2',iP c3']
    simp only[e3];refine uW ?_;refine⟨(_,_),trivial,ch⟩
   refine C0 ?_ ?_<;>intro c4
   .have c3':¬i=A:=oM;have e3:Pe l A B n i a'=if(gS l a' i 1 [2,4,5,7] (iz A n i)).1.kd=7 then({(gS l a' i 1 [2,4,5,7] (iz A n i)).1 with ln:=0},(gS l a' i 1 [2,4,5,7] (iz A n i)).2) else gS l a' i 1 [2,4,5,7] (iz A n i):=by rw[Pe,iN c1',iN c2',iN c3',iP oM]
    refine uR ?_;intro K hK;refine ZI rfl ((eG l a' i 1 [2,4,5,7] (iz A n i) hf ⟨dM,dM⟩ oM)) iO iO iO iO iO ?_;refine uS ?_;refine hK _ ?_;clear hK K;refine C0 ?_ ?_<;>intro c5
    .refine uZ ?_;rw[iP c5]at e3;simp only[e3];refine⟨(_,_),trivial,ch⟩
    refine uW ?_;rw[iN c5]at e3;simp only[e3];refine⟨(_,_),trivial,ch⟩
   have c3':¬i=A:=oM;have c4':¬i<A+1+B:=oM;refine C0 ?_ ?_<;>intro c5
   .have e3:Pe l A B n i a'=(⟨.empty,8,0,1,[]⟩,a'):=by rw[Pe,iN c1',iN c2',iN c3',iN c4',iP oM]
    refine uZ ?_;simp only[e3];refine⟨(_,_),trivial,ch⟩
   have e3:Pe l A B n i a'=(⟨.empty,9,0,((i-(n-2):Nat):Int),[]⟩,a'):=by rw[Pe,iN c1',iN c2',iN c3',iN c4',iN oM]
   have e5:(i:Int)-((n-2:Nat):Int)=((i-(n-2):Nat):Int):=oM;refine uZ ?_;refine uZ ?_;simp only[e3];refine⟨(_,_),trivial,wH @e5⟩
  rintro⟨ck4,gx⟩ _;generalize e6:Pe l A B n i a'=x;simp only;refine uZ ?_;have hb:bytesOf [.lit (.int .u8 (IntKind.u8.wrap (65+(i:Int))))]=some [UInt8.ofNat (65+i)]:=by
   have e7:IntKind.u8.wrap (65+(i:Int))=((65+i:Nat):Int):=by have:IntKind.u8.wrap (65+(i:Int))=(65+(i:Int)) % 256:=rfl;omega
   rw[e7];rfl
  refine nF @hb ?_;intro K hK;refine⟨(by(repeat' apply And.intro)<;>first|omega|simp),?_⟩;refine hK _ ?_;clear hK K;have e8:TO l A B n (a+3) (i+1)=(xs++[{x.1 with nm:=p4 i}],x.2):=by rw[TO,e2,e6,e1]
  have xE:xs.length=i:=by rw[<-e1];exact Iu l A B n (a+3) i
  have fw:H4 xs++[.agg [.lit (.string (strOf [UInt8.ofNat (65+i)])),I x.1.kd,I x.1.ln,I x.1.zn,IS x.1.ex]]=H4 (xs++[{x.1 with nm:=p4 i}]):=by rw[aal];rfl
  by_cases PL:i=0
  .have PI:xs=[]:=EH.1 oM;subst PL;subst PI;simp only[W8,Hi];have afP:[.agg [.lit (.string (strOf [UInt8.ofNat 65])),I x.1.kd,I x.1.ln,I x.1.zn,IS x.1.ex]]=H4 [{x.1 with nm:=p4 0}]:=rfl;refine uZ ?_;exact nX (_,0+1,_) (wH (uI @e8 (uI @gY (uI @l6 @afP))))
  simp only[G4 PL,PO PL];refine aH (uI @xE @fw) ?_;exact nX (_,i+1,_) (wH (uI @e8 (uI @gY @l6)))
 refine El ?_;have QB:i=n:=oM;subst QB;have Sn:i≠0:=oM;generalize e1:(TO l A B i (a+3) i).1=xs;generalize e2:(TO l A B i (a+3) i).2=a';have xE:xs.length=i:=by rw[<-e1];exact Iu l A B i (a+3) i
 simp only[G4 Sn,PO Sn];refine GA ?_;have cQ:(uN xs A).map (·.1)=RQ xs A:=rfl;refine JP (fun q:Az=>⟨[(0,.p 0 0 0 0 0),(2,.p 102 1 0 0 0),(9,.p 109 24 0 0 0)],
  (109,some (24,.box [.sl (H4 (if 0<gN l a' 4 then RQ xs A else xs)) false,.sl [] true]))::(102,some (1,.box [.sl [] true,.sl [] true]))::di l (a'+1),q.1⟩) (fun _=>True) ?_ ?_
 .refine uR ?_;intro K hK;refine ZI rfl ((Ih l a' 4 hf oM)) iO iO iO iO iO ?_;refine uS ?_;refine hK _ ?_;clear hK K;refine Wc ?_ ?_<;>intro c1
  .refine EP ?_;refine AJ A (fun j:Az=>⟨[(0,.p 0 0 0 0 0),(2,.p 102 1 0 0 0),(7,I A),(9,.p 109 24 0 0 0),(16,I j.2)],(109,some (24,.box [.l 239 g 0 i,.sl [] true]))::(239,some (g,.own 82 5 (Iz (uN xs j.2))))::(102,some (1,.box [.sl [] true,.sl [] true]))::di l (a'+1),j.1⟩) (.of (lR _) (by repeat first|exact Zf.nil|refine He ?_|(refine Zf.cons ?_ ?_;(focus (simp only[go_sem,Pw,uN];done)))) My) ?_;intro ck5 j hj;refine C0 ?_ ?_<;>intro h2
   .have adl:j<xs.length:=oM;have kF:=Ee xs j;have J2:=D7 (xs:=xs) (j:=j) j (lR _) adl;generalize e7:xs.getD j default=x at*;obtain⟨H7,hx2⟩:1<=x.ex.length/\x.ex.length<=2:=by rw[<-e7,<-e1];exact acR oM oM oM
    have e8:uN xs (j+1)=if x.kd≠5/\((j+1:Nat):Int)∉x.ex then(uN xs j).set j (lc j x,true) else uN xs j:=by rw[<-e7];rfl
    have ej:(j:Int)+1=((j+1:Nat):Int):=oM;by_cases c2:x.kd=5
    .have d2:decide (¬x.kd=5)=false:=dF oM;rw[iN (fun h=>h.1 c2)]at e8;refine cx (uI @P_ (uI @kF (uI @J2 @d2))) ?_;refine UN ?_;exact nX (_,j+1) (wH @e8)
    have d2:decide (¬x.kd=5)=true:=dT c2;refine nF (uI @P_ (uI @kF (uI @J2 @d2))) ?_;intro K hK;refine uH ?_;rw[ej];refine oj iO ((kQ x.ex ((j+1:Nat):Int) oM)) iO iO iO ?_;refine uS ?_;by_cases c3:((j+1:Nat):Int)∈x.ex
    .have d3:decide (((j+1:Nat):Int)∈x.ex)=true:=dT c3;rw[iN (fun h=>h.2 c3)]at e8;first|refine Z6 @d3 ?_|exact an @d3
     refine hK _ ?_;clear hK K;refine UN ?_;exact nX (_,j+1) (wH @e8)
    have d3:decide (((j+1:Nat):Int)∈x.ex)=false:=dF c3;rw[iP ⟨c2,c3⟩]at e8;first|refine Z6 @d3 ?_|exact an @d3
    refine hK _ ?_;clear hK K;refine uT ?_;(repeat first|refine GA ?_|refine md ?_|refine lK ?_);refine fx hC kR kR rfl fun K hK=>?_;simp only[go_sem,P_,kF,J2,Bu,DT]
    have Vb:(Iz (uN xs j)).set j (.agg [S x.nm,I x.kd,I x.ln,I x.zn,.Rc 3 1 (.lit (.int .i64 ((j:Int)+1))::tk (x.ex.drop 1))])=Iz ((uN xs j).set j (lc j x,true)):=by rw[ej];exact Vi (ex:=((j+1:Nat):Int)::x.ex.drop 1)
    (repeat ((with_reducible refine And.intro ?_ ?_);focus (((repeat' apply And.intro)<;>first|omega|(simp;done)|kernel_rfl))))
    refine hK _ ?_;clear hK K;simp only[be,j4,Vb];refine uZ ?_;exact nX (_,j+1) (wH @e8)
   refine El ?_;have ari:j=A:=oM;subst ari;refine uW ?_;refine⟨(_,0),trivial,.of (lR _) (by repeat (first|exact Zf.nil|refine Zf.cons rfl ?_|refine Zf.gone ?_|refine Zf.opt rfl ?_|(refine Zf.cons ?_ ?_;(focus (simp only[go_sem,iP c1,nH,MX,Tf,P_,Ee,xE,cQ];done)))|(refine Zf.less rfl (Km.wB ?_) ?_;(focus ((repeat (first|exact BW.nil|refine BW.same ?_|(refine BW.GL ?_ ?_ ?_ ?_;(focus (first|exact trivial|(simp only[go_sem,iP c1,nH,MX,Tf,P_,Ee,xE,cQ]<;>trivial)));(focus (first|rfl|((simp only[go_sem,iP c1,nH,MX,Tf,P_,Ee,xE,cQ]<;>rfl);done)));(focus (first|(simp only[go_sem,iP c1,nH,MX,Tf,P_,Ee,xE,cQ];done)|((simp only[go_sem,iP c1,nH,MX,Tf,P_,Ee,xE,cQ]<;>simp);done)|(simp;done)))))));done)))) (by repeat (first|exact O6.nil|refine O6.cons rfl ?_|(refine O6.cons ?_ ?_;(focus (simp only[go_sem];done)))|(refine O6.snap ?_ ?_ ?_ ?_;(focus (first|exact trivial|(simp only[go_sem]<;>trivial)));(focus (first|rfl|((simp only[go_sem]<;>rfl);done)));(focus (first|(simp only[go_sem];done)|((simp only[go_sem]<;>simp);done)|(simp;done))))))⟩
  refine uW ?_;refine⟨(_,0),trivial,.of (lR _) (by repeat (first|exact Zf.nil|refine Zf.cons rfl ?_|refine Zf.gone ?_|refine Zf.opt rfl ?_|(refine Zf.cons ?_ ?_;(focus (simp only[go_sem,iN c1,Su,xE];done)))|(refine Zf.less rfl (Km.wB ?_) ?_;(focus ((repeat (first|exact BW.nil|refine BW.same ?_|(refine BW.GL ?_ ?_ ?_ ?_;(focus (first|exact trivial|(simp only[go_sem,iN c1,Su,xE]<;>trivial)));(focus (first|rfl|((simp only[go_sem,iN c1,Su,xE]<;>rfl);done)));(focus (first|(simp only[go_sem,iN c1,Su,xE];done)|((simp only[go_sem,iN c1,Su,xE]<;>simp);done)|(simp;done)))))));done)))) (by repeat (first|exact O6.nil|refine O6.cons rfl ?_|(refine O6.cons ?_ ?_;(focus (simp only[go_sem];done)))|(refine O6.snap ?_ ?_ ?_ ?_;(focus (first|exact trivial|(simp only[go_sem]<;>trivial)));(focus (first|rfl|((simp only[go_sem]<;>rfl);done)));(focus (first|(simp only[go_sem];done)|((simp only[go_sem]<;>simp);done)|(simp;done))))))⟩
 rintro⟨ck6,u⟩ _;have kF:(if 0<gN l a' 4 then RQ xs A else xs).length=i:=by
  split
  .rw[lG,xE]
  exact xE
 generalize aom:(if 0<gN l a' 4 then RQ xs A else xs)=ys at*;simp only;refine uR ?_;intro K hK;have gH:∀k,k<ys.length->0<=(ys.getD k default).ln/\(ys.getD k default).ln<=1000:=by
  intro k hk;have:=arw (l:=l) (A:=A) (B:=B) (n:=i) (a:=a+3) (i:=i) (j:=k) oM;rw[e1]at this;rw[<-aom];split
  .rw[Cg oM];split
   .rw[ld.1];omega
   omega
  omega
 refine ZI rfl ((atB l (a'+1) ys [] hf oM gH)) iO iO iO iO iO ?_;refine uS ?_;refine hK _ ?_;clear hK K;refine uR ?_;refine SU ?_;refine A_ ?_;rw[show f9.results.toList=[.cell 2 28] from rfl];(refine(AK Xs rfl vE vE ?_ ?_);all_goals (first|refine b5 ?_|exact aG|skip))
def vF(l:List Int):List Int:=l.take 2000
def ao6(l:List Int)(h:l.length<=9223372036854775807):UB prog J9 8 [] [IS l] [(100,some (1,.box [IS (vF l),I 0]))] (.p 100 1 0 0 0):=by
 refine MD func8 ntmps8 ?_;intro w e X hC;refine C0 ?_ ?_<;>intro h
 .refine uZ ?_;have e:tk (l.take 2000)=tk (vF l):=rfl;simp only[yW,e];refine A_ ?_;rw[show f8.results.toList=[.tmp 2] from rfl];(refine Me [(100,1,110,10)] Xs sM sM sM I3 I3 I3 ?_ ?_;all_goals (first|refine UR ?_|exact Xv|skip))
 have e:l=vF l:=by rw[vF,DZ oM]
 refine uZ ?_;rw[<-e];refine A_ ?_;rw[show f8.results.toList=[.tmp 2] from rfl];(refine Me [(100,1,110,7)] Xs sM sM sM I3 I3 I3 ?_ ?_;all_goals (first|refine UR ?_|exact Xv|skip))
def T1(l:List Int)(x:Nd)(a:Nat):Int×Nat:=
 if x.kd=7 then(gN l a 8,a+1)
 else if x.kd=8\/x.kd=9 then(0,a)
 else if x.kd=5 then(gP l a [1,1,0],a+1)
 else if x.kd=4\/x.kd=6 then(gP l a [1,0,1,0,-1],a+1)
 else(gP l a [0,0,0,0,-1],a+1)
def VH(l:List Int)(xs:List Nd)(a:Nat):Nat->List Int×Nat
 |0=>([],a)|i+1=>((VH l xs a i).1++[(T1 l (xs.getD i default) (VH l xs a i).2).1],(T1 l (xs.getD i default) (VH l xs a i).2).2)
def gC(l:List Int)(a:Nat)(xs:List Nd):List Int×Nat:=VH l xs a xs.length
theorem Lk(l:List Int)(xs:List Nd)(a:Nat):∀i,(VH l xs a i).1.length=i
 |0=>rfl|i+1=>by rw[VH,aL,Lk l xs a i];rfl
def Xz(l:List Int)(a:Nat)(y:Ly)(hf:M2 l)(hn:y.U.length<=1000):
  UB prog J9 16 (di l a) [.p 0 0 0 0 0,y.av] (di l (gC l a y.U).2) (IS (gC l a y.U).1):=by
 refine MD func16 ntmps16 ?_;intro w e X hC;refine EP ?_;refine AJ y.U.length (fun i:Az=>⟨[(0,.p 0 0 0 0 0),(3,.p 103 1 0 0 0),(5,.l 105 3 0 i.2),(6,I i.2)],(105,some (3,.own 3 1 (tk (VH l y.U a i.2).1)))::(103,some (1,.box (r8 y)))::di l (VH l y.U a i.2).2,i.1⟩) (ch) ?_;intro ck i hi;refine C0 ?_ ?_<;>intro h
 .have PP:i<y.U.length:=oM;have e1:VH l y.U a (i+1)=((VH l y.U a i).1++[(T1 l (y.U.getD i default) (VH l y.U a i).2).1],(T1 l (y.U.getD i default) (VH l y.U a i).2).2):=rfl;have iS:=Lk l y.U a i;generalize VH l y.U a i=cs at*;generalize e2:y.U.getD i default=x at*;refine uR ?_;refine SU ?_;refine GA ?_;refine JP (fun q:Nat=>⟨[(0,.p 0 0 0 0 0),(3,.p 103 1 0 0 0),(5,.l 105 3 0 i),(6,I i),(7,I (T1 l x cs.2).1)],(105,some (3,.own 3 1 (tk cs.1)))::(103,some (1,.box (r8 y)))::di l (T1 l x cs.2).2,q⟩) (fun _=>True) ?_ ?_
  .have kds:x.kd=7\/x.kd=8\/x.kd=9\/x.kd=5\/x.kd=4\/x.kd=6\/(¬x.kd=7/\¬x.kd=8/\¬x.kd=9/\¬x.kd=5/\¬x.kd=4/\¬x.kd=6):=oM;rcases kds with c|c|c|c|c|c|⟨c1,c2,c3,c4,c5,c6⟩
   .have e3:T1 l x cs.2=(gN l cs.2 8,cs.2+1):=gz;refine VF (uI (bp PP) (uI @e2 @c)) ?_;refine uR ?_;intro K hK;refine ZI rfl ((Ih l cs.2 8 hf oM)) iO iO iO iO iO ?_;refine uS ?_;refine hK _ ?_;clear hK K;refine uW ?_;refine⟨_,trivial,wK @e3 @e3⟩
   .have e3:T1 l x cs.2=(0,cs.2):=gz;refine kV (uI (bp PP) (uI @e2 @c)) ?_;refine⟨_,trivial,wK @e3 @e3⟩
   .have e3:T1 l x cs.2=(0,cs.2):=gz;refine kV (uI (bp PP) (uI @e2 @c)) ?_;refine⟨_,trivial,wK @e3 @e3⟩
   .have e3:T1 l x cs.2=(gP l cs.2 [1,1,0],cs.2+1):=gz;refine VF (uI (bp PP) (uI @e2 @c)) ?_;refine uR ?_;intro K hK;refine ZI rfl ((Jn l cs.2 [1,1,0] hf dM dM)) iO iO iO iO iO ?_;refine uS ?_;refine hK _ ?_;clear hK K;refine uW ?_;refine⟨_,trivial,wK @e3 @e3⟩
   .have e3:T1 l x cs.2=(gP l cs.2 [1,0,1,0,-1],cs.2+1):=gz;refine VF (uI (bp PP) (uI @e2 @c)) ?_;refine uR ?_;intro K hK;refine ZI rfl ((Jn l cs.2 [1,0,1,0,-1] hf dM dM)) iO iO iO iO iO ?_;refine uS ?_;refine hK _ ?_;clear hK K;refine uW ?_;refine⟨_,trivial,wK @e3 @e3⟩
   .have e3:T1 l x cs.2=(gP l cs.2 [1,0,1,0,-1],cs.2+1):=gz;refine VF (uI (bp PP) (uI @e2 @c)) ?_;refine uR ?_;intro K hK;refine ZI rfl ((Jn l cs.2 [1,0,1,0,-1] hf dM dM)) iO iO iO iO iO ?_;refine uS ?_;refine hK _ ?_;clear hK K;refine uW ?_;refine⟨_,trivial,wK @e3 @e3⟩
   have e3:T1 l x cs.2=(gP l cs.2 [0,0,0,0,-1],cs.2+1):=by unfold T1;simp[c1,c2,c3,c4,c5,c6]
   refine VF (uI (bp PP) (uI @e2 (uI @c1 (uI @c2 (uI @c3 (uI @c4 (uI @c5 @c6))))))) ?_;refine uR ?_;intro K hK;refine ZI rfl ((Jn l cs.2 [0,0,0,0,-1] hf dM dM)) iO iO iO iO iO ?_;refine uS ?_;refine hK _ ?_;clear hK K;refine uW ?_;refine⟨_,trivial,wK @e3 @e3⟩
  intro ck2 _;refine aH @iS ?_;exact nX (_,i+1) (wK @e1 @e1)
 refine El ?_;have jk:i=y.U.length:=oM;subst jk;have iS:=Lk l y.U a y.U.length;refine uZ ?_;(refine A_ (lO rfl (Im @iS) (Im @iS) ?_ ?_);all_goals (first|refine Z6 @iS ?_|exact an @iS|skip))
 .rfl
 rfl
def aR(f g:T3):Bool:=decide (g.b=f.b)&&decide (g.c=f.c)
def zD(l:List Int)(xs:List Nd)(o:List T3×Nat):List T3×Nat:=
 let k:=gN l o.2 xs.length
 let x:=xs.getD k.toNat default
 if x.ln=0 then(o.1,o.2+1)
 else
  let f:T3:=⟨gR l (o.2+1) 1 2,k,gN l (o.2+2) x.ln⟩
  (if o.1.any (aR f) then o.1 else o.1++[f],o.2+3)
def Vx(l:List Int)(xs:List Nd)(a:Nat):Nat->List T3×Nat
 |0=>([],a)|i+1=>zD l xs (Vx l xs a i)
def ai2{l:List Int}{xs:List Nd}{o:List T3×Nat}:(zD l xs o).1.length<=o.1.length+1:=by
 unfold zD;simp only;split
 .simp
 simp only;split<;>simp
theorem OO(l:List Int)(xs:List Nd)(a:Nat):∀i,(Vx l xs a i).1.length<=i
 |0=>lR _|i+1=>Jz ai2 (Nat.succ_le_succ (OO l xs a i))
def Th{α:Type}{p:α->Bool}{l:List α}{j:Nat}(h:j<l.length):(l.take (j+1)).any p=((l.take j).any p||p l[j]):=by rw[wr,gG h,mh];simp
def al3(l:List Int)(a n:Nat)(y:Ly)(hf:M2 l)(hn:y.U.length<=1000)(Sn:0<y.U.length)(hm:n<=1000)(hx:∀i,i<y.U.length->0<=(y.U.getD i default).ln/\(y.U.getD i default).ln<=1000):
  UB prog J9 17 (di l a) [.p 0 0 0 0 0,y.av,I n] (di l (Vx l y.U a n).2) (.sl (YA (Vx l y.U a n).1) false):=by
 refine MD func17 ntmps17 ?_;intro w e X hC;refine EP ?_;refine AJ n (fun i:Az=>⟨[(0,.p 0 0 0 0 0),(2,I n),(4,.p 104 1 0 0 0),(7,.l 107 3 0 (Vx l y.U a i.2).1.length),(8,I i.2)],(107,some (3,.own 95 3 (YA (Vx l y.U a i.2).1)))::(104,some (1,.box (r8 y)))::di l (Vx l y.U a i.2).2,i.1⟩) (ch) ?_;intro ck i hi;refine C0 ?_ ?_<;>intro h
 .have e1:Vx l y.U a (i+1)=zD l y.U (Vx l y.U a i):=rfl;have S0:=OO l y.U a i;generalize Vx l y.U a i=o at*;have hk:=G0 (l:=l) (a:=o.2) (n:=y.U.length) oM;obtain⟨k,DJ⟩:∃k:Nat,gN l o.2 y.U.length=k:=⟨_,(ua hk.1).symm⟩;rw[DJ]at hk;have PP:k<y.U.length:=oM;have ik:=hx k PP;have e2:zD l y.U o=if(y.U.getD k default).ln=0 then(o.1,o.2+1) else(if o.1.any (aR ⟨gR l (o.2+1) 1 2,k,gN l (o.2+2) (y.U.getD k default).ln⟩) then o.1 else o.1++[⟨gR l (o.2+1) 1 2,k,gN l (o.2+2) (y.U.getD k default).ln⟩],o.2+3):=by simp only[zD,DJ,Mv]
  generalize e3:y.U.getD k default=x at*;refine uR ?_;intro K hK;refine ZI rfl ((Ih l o.2 y.U.length hf oM)) iO iO iO iO iO ?_;refine uS ?_;refine hK _ ?_;clear hK K;simp only[DJ];refine Fm (uI (bp PP) @e3) ?_ ?_<;>intro c1
  .rw[iP c1]at e2;refine jq ?_;exact nX (_,i+1) (wK (uI @e1 @e2) (uI @e1 @e2))
  rw[iN c1]at e2;refine Dp (uI (bp PP) @e3) ?_;intro K hK;refine ZI rfl ((om l (o.2+1) 1 2 hf oM oM oM)) iO iO iO iO iO ?_;refine uS ?_;simp only[bp PP,e3,go_sem];refine uH ?_;refine ZI rfl ((Ih l (o.2+1+1) x.ln hf oM)) iO iO iO iO iO ?_;refine uS ?_;refine⟨kR,?_⟩;refine hK _ ?_;clear hK K;generalize JX:gR l (o.2+1) 1 2=f1 at*;have e4:o.2+1+1=o.2+2:=rfl;rw[e4];generalize W_:gN l (o.2+2) x.ln=f2 at*;refine uZ ?_;have Ev:0<=f2:=by rw[<-W_];exact(G0 oM).1
  refine uW ?_;refine PV (fun j:Nat×Az=>⟨[(0,.p 0 0 0 0 0),(2,I n),(4,.p 104 1 0 0 0),(7,.l 107 3 0 o.1.length),(8,I i),(10,.p 110 j.2.2 0 0 0),(11,B ((o.1.take j.2.1).any (aR ⟨f1,k,f2⟩))),(12,I j.2.1)],
   (110,some (j.2.2,.box [I f1,I k,I f2]))::(107,some (3,.own 95 3 (YA o.1)))::(104,some (1,.box (r8 y)))::di l (o.2+3),j.1⟩) (fun j=>j.2.1<=o.1.length) (fun j=>o.1.length-j.2.1) (_,0,_) (zL _) (ch) ?_
  rintro⟨ck2,j,g⟩ hj;simp only at hj;refine C0 ?_ ?_<;>intro h2
  .have Se:j<o.1.length:=oM;have e5:(o.1.take (j+1)).any (aR ⟨f1,k,f2⟩)=((o.1.take j).any (aR ⟨f1,k,f2⟩)||aR ⟨f1,k,f2⟩ o.1[j]):=Th Se;have e6:o.1.getD j default=o.1[j]:=by simp[gE,Se]
   have e7:(YA o.1).getD j .bad=(o.1[j]).av:=by rw[Hr Se,e6]
   generalize (o.1.take j).any (aR ⟨f1,k,f2⟩)=b at*;generalize o.1[j]=q at*;cases b with
   |true=>refine zr @e7 ?_;refine uZ ?_;exact nX (_,j+1,_) (wT (uI @e5 @Aa))|false=>
    by_cases c3:q.b=k
    .have d3:decide (q.b=(k:Int))=true:=dT c3;refine zr (uI @e7 @d3) ?_;refine uZ ?_;have e8:aR ⟨f1,k,f2⟩ q=decide (q.c=f2):=by simp[aR,c3]
     exact nX (_,j+1,_) (wT (uI @e5 @e8))
    have d3:decide (q.b=(k:Int))=false:=dF c3;refine zr (uI @e7 @d3) ?_;refine uZ ?_;have e8:aR ⟨f1,k,f2⟩ q=false:=by simp[aR,c3]
    exact nX (_,j+1,_) (wT (uI @e5 @e8))
  refine El ?_;have Se:j=o.1.length:=oM;subst Se;rw[Sy];cases hb:o.1.any (aR ⟨f1,k,f2⟩)with
  |true=>rw[hb,iP rfl]at e2;refine X3 ?_;exact nX (_,i+1) (wK (uI @e1 @e2) (uI @e1 @e2))|false=>rw[hb,iN sM]at e2;refine VF @BN ?_;exact nX (_,i+1) (wK (uI @e1 @e2) (uI @e1 @e2))
 refine El ?_;have jk:i=n:=oM;subst jk;refine uZ ?_;(refine A_ (lO rfl iO iO ?_ ?_);all_goals (first|refine uS ?_|exact uX|skip))
def E4(s:List Int):Nat:=s.count 0
def UM{s:List Int}{i:Nat}(h:i<s.length):(s.take (i+1)).count 0=(s.take i).count 0+if s.getD i 0=0 then 1 else 0:=by rw[wr,gG h,Ya,gE,gG h];simp[List.count_cons,List.count_nil]
def ajY(s:List Int)(hn:s.length<=9223372036854775807):UB prog J9 160 [] [IS s] [] (I (E4 s)):=by
 refine MD func160 ntmps160 ?_;intro w e X hC;refine EP ?_;refine AJ s.length (fun i:Az=>⟨[(0,IS s),(3,I ((s.take i.2).count 0:Nat)),(4,I i.2)],[],i.1⟩) (ch) ?_;intro ck i hi;have hc:(s.take i).count 0<=i:=Jz pr xF;refine C0 ?_ ?_<;>intro h
 .have PP:i<s.length:=oM;have e1:=UM PP;generalize (s.take i).count 0=c at*;refine LY (ma PP) ?_;refine MI _ rfl (fun e'=>?_) (fun e'=>?_)
  .rw[iP e']at e1;refine uZ ?_;exact nX (_,i+1) (wT @e1)
  rw[iN e']at e1;refine uZ ?_;exact nX (_,i+1) (wT @e1)
 refine El ?_;have jk:i=s.length:=oM;subst jk;refine OD ?_;try rfl
 rw[Sy];rfl
def c9(kd:Int):Bool:=decide (1<=kd)&&decide (kd<=6)
def R5(kd:Int):UB prog J9 56 [] [I kd] [] (B (c9 kd)):=by
 refine MD func56 ntmps56 ?_;intro w e X hC;refine uZ ?_;by_cases c1:1<=kd
 .have d1:decide (1<=kd)=true:=dT c1;refine xT @d1 ?_;try rfl
  simp only[go_sem,c9,d1,Q2]
 have d1:decide (1<=kd)=false:=dF c1;refine xT @d1 ?_;try rfl
 simp only[go_sem,c9,d1,aS]
def K3{a b:List (List Int)}(h:a.length=b.length)(h':∀j,j<a.length->a.getD j []=b.getD j []):a=b:=by refine i7 h fun j h1 h2=>?_;have:=h' j h1;simpa[h1,h2] using this
def alj(p q:Pl)(h1:p.Q.length<=1000)(h2:p.R.length<=1000)(h3:∀r∈p.Q,r.length<=9223372036854775807)(h4:∀r∈p.R,r.length<=9223372036854775807)(h5:q.Q.length<=9223372036854775807)(h6:q.R.length<=9223372036854775807):
  UB prog J9 71 [] [p.av,q.av] [] (B (decide (p.Q=q.Q/\p.R=q.R))):=by
 have Ov:¬(p.Q=q.Q/\p.R=q.R)->B (decide (p.Q=q.Q/\p.R=q.R))=B false:=fun h=>by rw[dF h]
 refine MD func71 ntmps71 ?_;intro w e X hC;refine uZ ?_;by_cases c1:p.Q.length=q.Q.length
 .have d1:decide (¬(p.Q.length:Int)=q.Q.length)=false:=dF oM;refine cx @d1 ?_;refine Wc ?_ ?_<;>intro c2
  .refine OD ?_;try rfl
   exact(Ov fun h=>c2 (by rw[h.2])).symm
  have c2':p.R.length=q.R.length:=oM;refine EP ?_;refine R7 p.Q.length (fun i:Az=>⟨[(2,.p 102 1 0 0 0),(3,.p 103 2 0 0 0),(5,I i.2)],[(102,some (1,.box (GE p))),(103,some (2,.box (GE q)))],i.1⟩) (fun i=>∀j,j<i.2->p.Q.getD j []=q.Q.getD j []) (fun j hj=>absurd hj (nZ _)) (ch) ?_;intro ck i hi hj;simp only at hj;refine C0 ?_ ?_<;>intro h
  .have PP:i<p.Q.length:=oM;have qT:i<q.Q.length:=oM;refine zj (uI (au PP) (au qT)) ?_;intro K hK;refine uH ?_;refine oj iO ((fE (p.Q.getD i []) (q.Q.getD i []) (h3 _ (by rw[gE,gG PP];exact gM PP)))) iO iO iO ?_;refine uS ?_;by_cases c3:p.Q.getD i []=q.Q.getD i []
   .have d3:decide (p.Q.getD i []=q.Q.getD i [])=true:=dT c3;first|refine Z6 @d3 ?_|exact an @d3
    refine hK _ ?_;clear hK K;refine UN ?_;refine⟨(_,i+1),⟨oM,fun j tw=>?_⟩,uO,ch⟩;by_cases ZJ:j=i
    .subst ZJ;exact c3
    exact hj j oM
   have d3:decide (p.Q.getD i []=q.Q.getD i [])=false:=dF c3;first|refine Z6 @d3 ?_|exact an @d3
   refine hK _ ?_;clear hK K;refine eg ?_;try rfl
   exact(Ov fun h=>c3 (by rw[h.1])).symm
  refine El ?_;have hs:p.Q=q.Q:=K3 c1 fun j h=>hj j oM;clear hj hi h;refine EP ?_;refine R7 p.R.length (fun i:Az=>⟨[(2,.p 102 1 0 0 0),(3,.p 103 2 0 0 0),(6,I i.2)],[(102,some (1,.box (GE p))),(103,some (2,.box (GE q)))],i.1⟩) (fun i=>∀j,j<i.2->p.R.getD j []=q.R.getD j []) (fun j hj=>absurd hj (nZ _)) (ch) ?_;intro ck i hi hj;simp only at hj;refine C0 ?_ ?_<;>intro h
  .have PP:i<p.R.length:=oM;have qT:i<q.R.length:=oM;refine zj (uI (au PP) (au qT)) ?_;intro K hK;refine uH ?_;refine oj iO ((fE (p.R.getD i []) (q.R.getD i []) (h4 _ (by rw[gE,gG PP];exact gM PP)))) iO iO iO ?_;refine uS ?_;by_cases c3:p.R.getD i []=q.R.getD i []
   .have d3:decide (p.R.getD i []=q.R.getD i [])=true:=dT c3;first|refine Z6 @d3 ?_|exact an @d3
    refine hK _ ?_;clear hK K;refine UN ?_;refine⟨(_,i+1),⟨oM,fun j tw=>?_⟩,uO,ch⟩;by_cases ZJ:j=i
    .subst ZJ;exact c3
    exact hj j oM
   have d3:decide (p.R.getD i []=q.R.getD i [])=false:=dF c3;first|refine Z6 @d3 ?_|exact an @d3
   refine hK _ ?_;clear hK K;refine eg ?_;try rfl
   exact(Ov fun h=>c3 (by rw[h.2])).symm
  refine El ?_;have Ac:p.R=q.R:=K3 c2' fun j h=>hj j oM;refine OD ?_;try rfl
  exact an (dT (show p.Q=q.Q/\p.R=q.R from⟨hs,Ac⟩))
 have d1:decide (¬(p.Q.length:Int)=q.Q.length)=true:=dT oM;refine GJ @d1 ?_;refine eg ?_;try rfl
 exact(Ov fun h=>c1 (by rw[h.1])).symm
def R2(p q:Pl)(h1:p.Q.length<=1000)(h2:p.R.length<=1000)(h3:∀r∈p.Q,r.length<=9223372036854775807)(h4:∀r∈p.R,r.length<=9223372036854775807)(h5:q.Q.length<=9223372036854775807)(h6:q.R.length<=9223372036854775807):
  UB prog J9 23 [] [p.av,q.av] [] (B (decide (p.Q=q.Q/\p.R=q.R))):=by
 refine MD func23 ntmps23 ?_;intro w e X hC;refine uZ ?_;refine yX ((alj p q h1 h2 h3 h4 h5 h6)) ?_;exact uP
def AU(p:Pl)(b:Int):Int×Int×Bool:=
 match (if b=0 then none else p.Q.findIdx? fun r=>decide (b∈r))with
 |some n=>(n,((((p.Q.getD n []).findIdx? fun x=>decide (x=b)).getD 0:Nat):Int),true)|none=>match p.R.findIdx? fun r=>decide (b∈r)with
  |some n=>(n,-1,true)|none=>(0,0,false)
abbrev yD(r:Int×Int×Bool):AV:=.F1 [.agg [I r.1,I r.2.1],B r.2.2]
def acp{r:List Int}{b:Int}{k:Nat}(hk:k<r.length)(h:r.getD k 0=b)(h':∀j,j<k->r.getD j 0≠b):(r.findIdx? fun x=>decide (x=b))=some k:=by rw[tV];refine⟨hk,by simpa[hk] using h,fun j hj=>?_⟩;have tw:j<r.length:=oM;simpa[tw] using h' j hj
def eV{l:List (List Int)}{b:Int}{k:Nat}(hk:k<l.length)(h:b∈l.getD k [])(h':∀j,j<k->b∉l.getD j []):(l.findIdx? fun x=>decide (b∈x))=some k:=by rw[tV];refine⟨hk,by simpa[hk] using h,fun j hj=>?_⟩;have tw:j<l.length:=oM;simpa[tw] using h' j hj
def Tm{l:List (List Int)}{b:Int}(h':∀j,j<l.length->b∉l.getD j []):(l.findIdx? fun x=>decide (b∈x))=none:=by rw[n4];intro x hx;obtain⟨j,hj,rfl⟩:=G_ hx;simpa[hj] using h' j hj
def alM{r:List Int}{b:Int}(h':∀j,j<r.length->r.getD j 0≠b):b∉r:=by intro hx;obtain⟨j,hj,rfl⟩:=G_ hx;exact h' j hj (by simp[hj])
def aqY(p:Pl)(b:Int)(h1:p.Q.length<=1000)(h2:p.R.length<=1000)(h3:∀i,i<p.Q.length->(p.Q.getD i []).length<=1000)(h4:∀i,i<p.R.length->(p.R.getD i []).length<=9223372036854775807):
  UB prog J9 95 [] [p.av,I b] [] (yD (AU p b)):=by
 refine MD func95 ntmps95 ?_;intro w e X hC;refine uA ?_;refine GA ?_;refine JP (fun q:Nat=>⟨[(1,I b),(2,.p 102 1 0 0 0),(4,.p 104 2 0 0 0)],(102,some (1,.box (GE p)))::(104,some (2,.box [I 0,I 0]))::[],q⟩) (fun _=>AU p b=match p.R.findIdx? fun r=>decide (b∈r)with|some n=>(n,-1,true)|none=>(0,0,false)) ?_ ?_
 rotate_left
 .intro ck ew;refine EP ?_;refine R7 p.R.length (fun i:Az=>⟨[(1,I b),(2,.p 102 1 0 0 0),(4,.p 104 2 0 0 0),(8,I i.2)],(102,some (1,.box (GE p)))::(104,some (2,.box [I 0,I 0]))::[],i.1⟩) (fun i=>∀j,j<i.2->b∉p.R.getD j []) (fun j hj=>absurd hj (nZ _)) (ch) ?_;intro ck i hi hj;simp only at hj;refine C0 ?_ ?_<;>intro h
  .have PP:i<p.R.length:=oM;have s6:=h4 i PP;generalize e1:p.R.getD i []=r at*;by_cases c3:b∈r
   .have d3:decide (b∈r)=true:=dT c3;refine nF (uI (au PP) @e1) ?_;intro K hK;refine Dx ((kQ r b s6)) ?_;simp only[d3];refine hK _ ?_;clear hK K;refine WM ?_;rw[eV PP (by rw[e1];exact c3) hj]at ew;refine A_ ?_;rw[show f95.results.toList=[.cell 4 77,.tmp 5] from rfl];first|refine jW ?_|exact W5
    simp only[ew]
   have d3:decide (b∈r)=false:=dF c3;refine nF (uI (au PP) @e1) ?_;intro K hK;refine Dx ((kQ r b s6)) ?_;simp only[d3];refine hK _ ?_;clear hK K;refine UN ?_;refine⟨(_,i+1),⟨uO,fun j tw=>?_⟩,uO,ch⟩;by_cases ZJ:j=i
   .subst ZJ;rw[e1];exact c3
   exact hj j DG
  refine El ?_;rw[Tm fun j h=>hj j oM]at ew;refine WE ?_;rw[show f95.results.toList=[.cell 4 77,.tmp 5] from rfl];first|refine jW ?_|exact W5
  simp only[ew]
 refine EP ?_;refine R7 p.Q.length (fun i:Az=>⟨[(1,I b),(2,.p 102 1 0 0 0),(4,.p 104 2 0 0 0),(6,I i.2)],(102,some (1,.box (GE p)))::(104,some (2,.box [I 0,I 0]))::[],i.1⟩) (fun i=>∀j,j<i.2->b∉p.Q.getD j []) (fun j hj=>absurd hj (nZ _)) (ch) ?_;intro ck i hi hj;simp only at hj;by_cases c0:i<p.Q.length/\¬b=0
 .have d1:=oN ((i:Int)<p.Q.length);have d2:decide (¬b=0)=true:=dT c0.2;have PP:=c0.1;have s6:=h3 i PP;generalize e1:p.Q.getD i []=r at*;refine GJ (uI @d1 @d2) ?_;refine WM ?_;refine uW ?_;refine R7 r.length (fun k:Az=>⟨[(1,I b),(2,.p 102 1 0 0 0),(4,.p 104 2 0 0 0),(6,I i),(7,I k.2)],(102,some (1,.box (GE p)))::(104,some (2,.box [I 0,I 0]))::[],k.1⟩) (fun k=>∀j,j<k.2->r.getD j 0≠b) (fun j hj=>absurd hj (nZ _)) (ch) ?_;intro ck k hk DE;simp only at DE;refine Fm (uI (au PP) @e1) ?_ ?_<;>intro h
  .have DN:k<r.length:=oM;refine Fm (uI (au PP) (uI @e1 (ma DN))) ?_ ?_<;>intro c3
   .refine uZ ?_;have e2:AU p b=((i:Int),(k:Int),true):=by
     have hm:b∈p.Q.getD i []:=by rw[e1,<-c3];exact aV DN
     unfold AU;rw[iN c0.2,eV PP hm hj];simp only[e1,acp DN c3 DE];rfl
    refine A_ ?_;rw[show f95.results.toList=[.cell 4 77,.tmp 5] from rfl];first|refine jW ?_|exact W5
    simp only[e2]
   refine uZ ?_;refine⟨(_,k+1),⟨uO,fun j tw=>?_⟩,uO,ch⟩;by_cases pC:j=k
   .subst pC;exact c3
   exact DE j DG
  refine jq ?_;refine⟨(_,i+1),⟨uO,fun j tw=>?_⟩,uO,ch⟩;by_cases ZJ:j=i
  .subst ZJ;rw[e1];exact alM fun j h=>DE j oM
  exact hj j DG
 have ew:AU p b=match p.R.findIdx? fun r=>decide (b∈r)with|some n=>(n,-1,true)|none=>(0,0,false):=by
  by_cases hb:b=0
  .unfold AU;rw[iP hb]
  have:(p.Q.findIdx? fun r=>decide (b∈r))=none:=Tm fun j h=>hj j oM;unfold AU;rw[iN hb,this]
 by_cases c1:i<p.Q.length
 .have d1:=oN ((i:Int)<p.Q.length);have d2:decide (¬b=0)=false:=dF (fun h=>c0 ⟨c1,h⟩);refine QT (uI @d1 @d2) ?_;refine El ?_;refine⟨_,ew,ch⟩
 have d1:=Vj ((i:Int)<p.Q.length);refine QT @d1 ?_;refine El ?_;refine⟨_,ew,ch⟩
def R9{α:Type}{l:List α}{i:Nat}{d:α}(h:i<l.length):l.take (i+1)=l.take i++[l.getD i d]:=by rw[wr,gG h,gE,gG h];rfl
abbrev qK(p:Pl):Hp:=[(100,some (1,.own 22 1 (PG 3 p.Q))),(101,some (1,.own 22 1 (PG 3 p.R)))]
abbrev pq(p:Pl):AV:=.agg [.l 100 1 0 p.Q.length,.l 101 1 0 p.R.length]
def Gt(p:Pl)(h1:0<p.Q.length/\p.Q.length<=1000)(h2:0<p.R.length/\p.R.length<=1000)(h3:∀i,i<p.Q.length->(p.Q.getD i []).length<=1000)(h4:∀i,i<p.R.length->(p.R.getD i []).length<=1000):
  UB prog J9 55 [] [p.av] (qK p) (pq p):=by
 refine MD func55 ntmps55 ?_;intro w e X hC;refine EP ?_;refine PV (fun i:Nat×Az=>⟨[(1,.p 101 1 0 0 0),(2,.p 102 2 0 0 0),(3,.p 103 3 0 0 0),(4,I i.2.1)],(103,some (3,.box [Zd i.2.1 (.l 123 i.2.2 0 i.2.1),.sl [] true]))::(123,KA i.2.1 (i.2.2,.own 22 1 (PG 3 (p.Q.take i.2.1))))::(101,some (1,.box (GE p)))::(102,some (2,.box [.sl [] true,.sl [] true]))::[],i.1⟩) (fun i=>i.2.1<=p.Q.length) (fun i=>p.Q.length - i.2.1) (_,0,0) (zL _) (ch) ?_;rintro⟨ck,i,g⟩ hi;simp only at hi;refine C0 ?_ ?_<;>intro h
 .have PP:i<p.Q.length:=oM;have e1:=R9 (d:=[]) PP;have s6:=h3 i PP;have lC:(p.Q.take i).length=i:=xF;generalize e2:p.Q.getD i []=r at*;by_cases PL:i=0
  .subst PL;simp only[W8,Hi];refine Va (uI (au PP) (uI @e2 @AW)) ?_;exact nX (_,0+1,ck+15) (wH (uI @e1 (uI @gY @l6)))
  simp only[G4 PL,PO PL];refine Va (uI (au PP) (uI @e2 @lC)) ?_;exact nX (_,i+1,g) (wH (uI @e1 (uI @gY @l6)))
 refine El ?_;have jk:i=p.Q.length:=oM;subst jk;simp only[G4 (show p.Q.length≠0 by omega),PO (show p.Q.length≠0 by omega),Sy];refine EP ?_;refine PV (fun i:Nat×Az=>⟨[(1,.p 101 1 0 0 0),(2,.p 102 2 0 0 0),(3,.p 103 3 0 0 0),(5,I i.2.1)],(103,some (3,.box [.l 123 g 0 p.Q.length,Zd i.2.1 (.l 142 i.2.2 0 i.2.1)]))::(142,KA i.2.1 (i.2.2,.own 22 1 (PG 3 (p.R.take i.2.1))))::(123,some (g,.own 22 1 (PG 3 p.Q)))::(101,some (1,.box (GE p)))::(102,some (2,.box [.sl [] true,.sl [] true]))::[],i.1⟩) (fun i=>i.2.1<=p.R.length) (fun i=>p.R.length - i.2.1) (_,0,0) (zL _) (ch) ?_;rintro⟨ck,i,g2⟩ hi;simp only at hi;refine C0 ?_ ?_<;>intro h
 .have PP:i<p.R.length:=oM;have e1:=R9 (d:=[]) PP;have s6:=h4 i PP;have lC:(p.R.take i).length=i:=xF;generalize e2:p.R.getD i []=r at*;by_cases PL:i=0
  .subst PL;simp only[W8,Hi];refine Va (uI (au PP) (uI @e2 @AW)) ?_;exact nX (_,0+1,ck+15) (wH (uI @e1 (uI @gY @l6)))
  simp only[G4 PL,PO PL];refine Va (uI (au PP) (uI @e2 @lC)) ?_;exact nX (_,i+1,g2) (wH (uI @e1 (uI @gY @l6)))
 refine El ?_;have jk:i=p.R.length:=oM;subst jk;simp only[G4 (show p.R.length≠0 by omega),PO (show p.R.length≠0 by omega),Sy];refine WE ?_;rw[show f55.results.toList=[.cell 2 36] from rfl];(refine Me [(100,1,123,g),(101,1,142,g2)] Xs sM sM sM I3 I3 I3 ?_ ?_;all_goals (first|refine UR ?_|exact Xv|skip))
def l7(fs:List Int)(k:Nat)(hn:fs.length<=1000):UB prog J9 110 [] [IS fs,I k] [] (I (fs.getD k 0)):=by
 refine MD func110 ntmps110 ?_;intro w e X hC;refine C0 ?_ ?_<;>intro h
 .have PP:k<fs.length:=oM;exact jm (ma PP)
 refine OD ?_;try rfl
 rw[gE,Zo oM];rfl
def iU(s fs:List Int)(k:Nat):Nat:=
 if fs.getD k 0=1\/s.getD (k+1) 0≠0 then k
 else if fs.getD k 0=2/\k+2<s.length/\s.getD (k+2) 0=0 then k+2 else k+1
def at7(s fs:List Int)(k:Nat)(hn:fs.length<=1000)(hs:s.length<=1000)(hk:k+1<s.length):UB prog J9 109 [] [IS s,IS fs,I k] [] (I (iU s fs k)):=by
 have e1:(k:Int)+1=((k+1:Nat):Int):=oM;have e2:(k:Int)+2=((k+2:Nat):Int):=oM;refine MD func109 ntmps109 ?_;intro w e X hC;refine uZ ?_;by_cases c1:fs.getD k 0=1
 .have d1:decide (fs.getD k 0=1)=true:=dT c1;refine uR ?_;intro K hK;refine eh ((l7 fs k hn)) ?_;first|refine Z6 @d1 ?_|exact an @d1
  refine hK _ ?_;clear hK K;refine eg ?_;try rfl
  rw[iU,iP (.inl c1)];rfl
 have d1:decide (fs.getD k 0=1)=false:=dF c1;refine uR ?_;intro K hK;refine eh ((l7 fs k hn)) ?_;first|refine Z6 (uI @d1 (uI @e1 (ma hk))) ?_|exact an (uI @d1 (uI @e1 (ma hk)))
 refine uH ?_;refine hK _ ?_;clear hK K;refine Wc ?_ ?_<;>intro c2
 .refine OD ?_;try rfl
  rw[iU,iP (.inr c2)];rfl
 have c2':¬(fs.getD k 0=1\/s.getD (k+1) 0≠0):=fun h=>h.elim c1 c2;by_cases c3:fs.getD k 0=2
 .have d3:decide (fs.getD k 0=2)=true:=dT c3;by_cases c4:k+2<s.length
  .have d4:=oN (((k+2:Nat):Int)<s.length);refine uR ?_;intro K hK;refine eh ((l7 fs k hn)) ?_;first|refine Z6 (uI @d3 (uI @e2 (uI @d4 (ma c4)))) ?_|exact an (uI @d3 (uI @e2 (uI @d4 (ma c4))))
   refine uH ?_;refine hK _ ?_;clear hK K;refine Wc ?_ ?_<;>intro c5
   .refine OD ?_;try rfl
    rw[iU,iN c2',iP ⟨c3,c4,c5⟩];rfl
   refine OD ?_;try rfl
   rw[iU,iN c2',iN (fun h=>c5 h.2.2)];rfl
  have d4:=Vj (((k+2:Nat):Int)<s.length);refine uR ?_;intro K hK;refine eh ((l7 fs k hn)) ?_;first|refine Z6 (uI @d3 (uI @e2 @d4)) ?_|exact an (uI @d3 (uI @e2 @d4))
  refine uH ?_;refine hK _ ?_;clear hK K;refine UN ?_;refine uJ ?_;try rfl
  rw[iU,iN c2',iN (fun h=>c4 h.2.1)];rfl
 have d3:decide (fs.getD k 0=2)=false:=dF c3;refine uR ?_;intro K hK;refine eh ((l7 fs k hn)) ?_;first|refine Z6 @d3 ?_|exact an @d3
 refine hK _ ?_;clear hK K;refine UN ?_;refine uJ ?_;try rfl
 rw[iU,iN c2',iN (fun h=>c3 h.1)];rfl
def nC(s fs:List Int)(op:Bool)(k:Nat)(o:List Int×Int):List Int×Int:=
 if s.getD k 0=0 then o
 else if k+1<s.length then(o.1.set (iU s fs k) (s.getD k 0),o.2)
 else if op=true/\fs.getD k 0≠1 then(o.1,s.getD k 0)
 else(o.1.set k (s.getD k 0),o.2)
def QQ(s fs:List Int)(op:Bool):Nat->List Int×Int
 |0=>(List.replicate s.length 0,0)|k+1=>nC s fs op k (QQ s fs op k)
theorem A'(s fs:List Int)(op:Bool):∀k,(QQ s fs op k).1.length=s.length
 |0=>by simp[QQ]|k+1=>by
  have:=A' s fs op k;rw[QQ,nC];split
  .exact this
  split
  .simpa using this
  split
  .exact this
  simpa using this
def Kb(s fs:List Int)(op:Bool):List Int×Int:=QQ s fs op s.length
def aiT{s fs:List Int}{k:Nat}(h:k+1<s.length):iU s fs k<s.length:=by
 unfold iU;split
 .omega
 split<;>omega
def aic(s fs:List Int)(op:Bool)(hn:fs.length<=1000)(hs:s.length<=1000):
  UB prog J9 57 [] [IS s,IS fs,B op] [(100,some (1,.own 3 1 (tk (Kb s fs op).1)))] (.F1 [.l 100 1 0 s.length,I (Kb s fs op).2]):=by
 refine MD func57 ntmps57 ?_;intro w e X hC;refine EP ?_;refine PV (fun i:Nat×Az=>⟨[(0,IS s),(1,IS fs),(2,B op),(8,.l 113 i.2.2 0 s.length),(9,I (QQ s fs op i.2.1).2),(10,I i.2.1)],(113,some (i.2.2,.own 3 1 (tk (QQ s fs op i.2.1).1)))::[],i.1⟩) (fun i=>i.2.1<=s.length) (fun i=>s.length - i.2.1) (_,0,_) (zL _) (ch) ?_;rintro⟨ck,i,g⟩ hi;simp only at hi;have TX:=A' s fs op i;have e1:QQ s fs op (i+1)=nC s fs op i (QQ s fs op i):=rfl;generalize e9:QQ s fs op i=o at*;refine C0 ?_ ?_<;>intro h
 .have PP:i<s.length:=oM;by_cases c1:s.getD i 0=0
  .have e2:nC s fs op i o=o:=iP c1;have d1:decide (s.getD i 0=0)=true:=dT c1;refine kV (uI (ma PP) @d1) ?_;exact nX (_,i+1,g) (wK (uI @e1 @e2) (uI @e1 @e2))
  have d1:decide (s.getD i 0=0)=false:=dF c1;by_cases c2:i+1<s.length
  .have e2:nC s fs op i o=(o.1.set (iU s fs i) (s.getD i 0),o.2):=by rw[nC,iN c1,iP c2]
   have d2:=oN ((i:Int)<(s.length:Int)-1);have ht:=aiT (fs:=fs) c2;refine VF (uI (ma PP) (uI @d1 @d2)) ?_;refine uD ?_;intro K hK;refine eh ((at7 s fs i hn hs c2)) ?_;first|refine Z6 (uI (ma PP) @TX) ?_|exact an (uI (ma PP) @TX)
   refine uH ?_;refine hK _ ?_;clear hK K;refine X3 ?_;refine uW ?_;exact nX (_,i+1,g) (wK (uI @e1 @e2) (uI @e1 @e2))
  have d2:=Vj ((i:Int)<(s.length:Int)-1);cases op with
  |false=>
   have e2:nC s fs false i o=(o.1.set i (s.getD i 0),o.2):=by rw[nC,iN c1,iN c2,iN sM]
   refine kV (uI (ma PP) (uI @d1 (uI @d2 @TX))) ?_;exact nX (_,i+1,g) (wK (uI @e1 @e2) (uI @e1 @e2))
  |true=>
   by_cases c3:fs.getD i 0=1
   .have e2:nC s fs true i o=(o.1.set i (s.getD i 0),o.2):=by rw[nC,iN c1,iN c2,iN (fun h=>h.2 c3)]
    have d3:decide (¬fs.getD i 0=1)=false:=dF (fun h=>h c3);refine VF (uI (ma PP) (uI @d1 @d2)) ?_;refine uR ?_;intro K hK;refine eh ((l7 fs i hn)) ?_;first|refine Z6 @d3 ?_|exact an @d3
    refine hK _ ?_;clear hK K;refine kV (uI (ma PP) @TX) ?_;exact nX (_,i+1,g) (wK (uI @e1 @e2) (uI @e1 @e2))
   have e2:nC s fs true i o=(o.1,s.getD i 0):=by rw[nC,iN c1,iN c2,iP ⟨rfl,c3⟩]
   have d3:decide (¬fs.getD i 0=1)=true:=dT c3;refine VF (uI (ma PP) (uI @d1 @d2)) ?_;refine uR ?_;intro K hK;refine eh ((l7 fs i hn)) ?_;first|refine Z6 @d3 ?_|exact an @d3
   refine hK _ ?_;clear hK K;refine kV (uI (ma PP) @TX) ?_;exact nX (_,i+1,g) (wK (uI @e1 @e2) (uI @e1 @e2))
 refine El ?_;have jk:i=s.length:=oM;subst jk;have e2:Kb s fs op=o:=e9;refine uZ ?_;rw[e2];refine A_ ?_;rw[show Tryz.f57.results.toList=[.tmp 6,.tmp 7] from rfl];(refine Me [(100,1,113,g)] Xs sM sM sM I3 I3 I3 ?_ ?_;all_goals (first|refine UR ?_|exact Xv|skip))
def eY(fs:List T3)(n:Int)(i:Nat)(o:List Int):List Int:=if(fs.getD i default).b=n then o.set (fs.getD i default).c.toNat (fs.getD i default).a else o
def mD(fs:List T3)(n:Int)(ln:Nat):Nat->List Int
 |0=>List.replicate ln 0|i+1=>eY fs n i (mD fs n ln i)
theorem BJ(fs:List T3)(n:Int)(ln:Nat):∀i,(mD fs n ln i).length=ln
 |0=>by simp[mD]|i+1=>by rw[mD,eY];split<;>simp[BJ fs n ln i]
def u_(fs:List T3)(n:Int)(ln:Nat):List Int:=mD fs n ln fs.length
def Kt(y:Ly)(fs:List T3)(n:Nat)(hn:n<y.U.length)(hy:y.U.length<=1000)(hf:fs.length<=1000)(hl:0<=(y.U.getD n default).ln/\(y.U.getD n default).ln<=1000)(hv:∀i,i<fs.length->(fs.getD i default).b=n->0<=(fs.getD i default).c/\(fs.getD i default).c<(y.U.getD n default).ln):
  UB prog J9 58 [] [y.av,.sl (YA fs) false,I n] [] (IS (u_ fs n (y.U.getD n default).ln.toNat)):=by
 generalize e2:y.U.getD n default=x at*;refine MD func58 ntmps58 ?_;intro w e X hC;refine LY (uI (bp hn) @e2) ?_;refine PV (fun i:Nat×Az=>⟨[(1,.sl (YA fs) false),(2,I n),(3,.p 103 1 0 0 0),(7,.l 115 i.2.2 0 x.ln.toNat),(8,I i.2.1)],(115,some (i.2.2,.own 3 1 (tk (mD fs n x.ln.toNat i.2.1))))::(103,some (1,.box (r8 y)))::[],i.1⟩) (fun i=>i.2.1<=fs.length) (fun i=>fs.length - i.2.1) (_,0,_) (zL _) (ch) ?_;rintro⟨ck,i,g⟩ hi;simp only at hi;have TX:=BJ fs n x.ln.toNat i;have e1:mD fs n x.ln.toNat (i+1)=eY fs n i (mD fs n x.ln.toNat i):=rfl;generalize e9:mD fs n x.ln.toNat i=o at*;refine C0 ?_ ?_<;>intro h
 .have PP:i<fs.length:=oM;have aon:=hv i PP;rw[eY]at e1;generalize e3:fs.getD i default=f at*;refine Fm (uI (Hr PP) @e3) ?_ ?_<;>intro c1
  .rw[iP c1]at e1;have oU:=aon c1;have yR:f.c.toNat<x.ln.toNat:=oM;refine Va (uI (Hr PP) (uI @e3 @TX)) ?_;exact nX (_,i+1,g) (wH @e1)
  rw[iN c1]at e1;refine uZ ?_;exact nX (_,i+1,g) (wH @e1)
 refine El ?_;have jk:i=fs.length:=oM;subst jk;refine WE ?_;refine SY (by simp only[go_sem,TX]<;>trivial) ?_;simp only[go_sem,<-e9];rfl
def agb(l:List Int)(x:Int)(hn:l.length<=1000):
  UB prog J9 59 [] [IS l,I x] [(100,some (1,.own 3 1 (tk (So l x))))] (.l 100 1 0 (So l x).length):=by
 refine MD func59 ntmps59 ?_;intro w e X hC;refine EP ?_;refine AJ l.length (fun i:Az=>⟨[(0,IS l),(1,I x),(5,.l 105 2 0 (So (l.take i.2) x).length),(6,I i.2)],(105,some (2,.own 3 1 (tk (So (l.take i.2) x))))::[],i.1⟩) (ch) ?_;intro ck i hi;refine C0 ?_ ?_<;>intro h
 .have PP:i<l.length:=oM;have e1:=oR (x:=x) PP;have s6:(So (l.take i) x).length<=l.length:=Jz (aU _ _) xF;refine LY (ma PP) ?_;refine MI _ rfl (fun e'=>?_) (fun e'=>?_)
  .rw[iP e']at e1;refine aH (ma PP) ?_;exact nX (_,i+1) (wK @e1 @e1)
  rw[iN e',MP]at e1;refine uZ ?_;exact nX (_,i+1) (wK @e1 @e1)
 refine El ?_;have jk:i=l.length:=oM;subst jk;rw[Sy];refine WE ?_;rw[show f59.results.toList=[.tmp 4] from rfl];(refine Me [(100,1,105,2)] Xs sM sM sM I3 I3 I3 ?_ ?_;all_goals (first|refine UR ?_|exact Xv|skip))
def kb(l:List Int)(x:Int):List Int:=l.takeWhile (fun y=>decide (y<x))++[x]++l.dropWhile (fun y=>decide (y<x))
theorem Vh:∀{l:List Int}{x:Int}{k:Nat},k<=l.length->(∀j,j<k->l.getD j 0<x)->(k=l.length\/¬l.getD k 0<x)->kb l x=l.take k++[x]++l.drop k
 |[],x,k,h,_,_=>by have:k=0:=A6;subst this;simp[kb]|y::l,x,0,_,_,h=>by
  have:¬y<x:=by rcases h with h|h<;>simpa using h
  simp[kb,this]
 |y::l,x,k+1,h,h1,h2=>by
  have hy:y<x:=by simpa using h1 0 oM
  have ih:=Vh (l:=l) (x:=x) (k:=k) A6 (fun j hj=>by simpa using h1 (j+1) oM) H0;simp only[kb]at ih;simp only[kb,List.takeWhile_cons,List.dropWhile_cons,hy,aA,ql,dS,dR,Mb];rw[ih]
def MJ(l:List Int)(x:Int):(kb l x).length=l.length+1:=by
 have:(l.takeWhile (fun y=>decide (y<x))++l.dropWhile (fun y=>decide (y<x))).length=l.length:=by rw[I8]
 rw[aL]at this;simp[kb];omega
def aoz(l:List Int)(x:Int)(hn:l.length<=1000):
  UB prog J9 60 [] [IS l,I x] [(100,some (1,.own 3 1 (tk (kb l x))))] (.l 100 1 0 (kb l x).length):=by
 refine MD func60 ntmps60 ?_;intro w e X hC;iterate 2 refine uA ?_
 refine GA ?_;refine JP (fun q:Az=>⟨[(0,IS l),(1,I x),(5,I q.2)],[],q.1⟩) (fun q=>q.2<=l.length/\kb l x=l.take q.2++[x]++l.drop q.2) ?_ ?_
 rotate_left
 .rintro⟨ck,i⟩ ⟨hi,e1⟩;simp only at hi e1;have lC:(l.take i).length=i:=xF;have jj:(l.drop i).length=l.length - i:=sM;have JW:=MJ l x;rw[e1]at JW ⊢;simp only[aL,WC,lC,jj];refine aH (uI @yW (uI @Bu (uI @lC @jj))) ?_;refine A_ ?_;rw[show f60.results.toList=[.tmp 4] from rfl];(refine Me [(100,1,121,ck)] Xs sM sM sM I3 I3 I3 ?_ ?_;all_goals (first|refine UR ?_|exact Xv|skip));simp[tk]
 refine uW ?_;refine R7 l.length (fun i:Az=>⟨[(0,IS l),(1,I x),(5,I i.2)],[],i.1⟩) (fun i=>∀j,j<i.2->l.getD j 0<x) (fun j hj=>absurd hj (nZ _)) (ch) ?_;intro ck i hi hj;simp only at hj;by_cases c1:i<l.length
 .have d1:=oN ((i:Int)<l.length);refine cx (uI @d1 (ma c1)) ?_;refine Wc ?_ ?_<;>intro c2
  .refine uZ ?_;refine⟨(_,i+1),⟨uO,fun j tw=>?_⟩,uO,ch⟩;by_cases ZJ:j=i
   .subst ZJ;exact c2
   exact hj j DG
  refine El ?_;refine uW ?_;refine⟨(_,i),⟨hi,Vh hi hj (.inr c2)⟩,ch⟩
 have d1:=Vj ((i:Int)<l.length);refine QT @d1 ?_;refine El ?_;refine uW ?_;refine⟨(_,i),⟨hi,Vh hi hj (.inl oM)⟩,ch⟩
def jo(x:Nd)(c:Int):Bool:=
 if x.kd=7 then decide (0<=c)&&decide (c<=40)
 else if c9 x.kd=false then decide (c=0)
 else if c=-1 then decide (¬x.kd=5)
 else decide (0<=c)&&decide (c<x.ex.length)
theorem xC(x:Nd)(c:Int)(hx:x.ex.length<=1000):UB prog J9 127 [] [x.av,I c] [] (B (jo x c)):=by
 refine MD func127 ntmps127 ?_;intro w e X hC;refine uA ?_;by_cases c1:x.kd=7
 .have d1:decide (x.kd=7)=true:=dT c1;have e1:jo x c=(decide (0<=c)&&decide (c<=40)):=iP c1;by_cases c2:0<=c
  .have d2:decide (0<=c)=true:=dT c2;refine Ij (uI @d1 @d2) ?_;try rfl
   exact an (uI @e1 (uI @d2 @Q2))
  have d2:decide (0<=c)=false:=dF c2;refine Ij (uI @d1 @d2) ?_;try rfl
  exact an (uI @e1 (uI @d2 @aS))
 have d1:decide (x.kd=7)=false:=dF c1;refine VF @d1 ?_;refine uR ?_;intro K hK;refine eh ((R5 x.kd)) ?_;cases c2:c9 x.kd with
 |false=>
  have e1:jo x c=decide (c=0):=by rw[jo,iN c1,iP c2]
  first|refine uS ?_|exact uX
  refine hK _ ?_;clear hK K;refine X3 ?_;refine uJ ?_;try rfl
  exact an @e1
 |true=>
  first|refine uS ?_|exact uX
  refine hK _ ?_;clear hK K;by_cases c3:c=-1
  .have d3:decide (c=-1)=true:=dT c3;have e1:jo x c=decide (¬x.kd=5):=by rw[jo,iN c1,iN (by simp[c2]),iP c3]
   refine Ij @d3 ?_;try rfl
   exact an @e1
  have d3:decide (c=-1)=false:=dF c3;have e1:jo x c=(decide (0<=c)&&decide (c<x.ex.length)):=by rw[jo,iN c1,iN (by simp[c2]),iN c3]
  by_cases c4:0<=c
  .have d4:decide (0<=c)=true:=dT c4;refine Ij (uI @d3 @d4) ?_;try rfl
   exact an (uI @e1 (uI @d4 @Q2))
  have d4:decide (0<=c)=false:=dF c4;refine Ij (uI @d3 @d4) ?_;try rfl
  exact an (uI @e1 (uI @d4 @aS))
def PX(x:Nd)(c:Int):Int:=if x.kd=7 then 0 else c
def an3(y:Ly)(cs:List Int)(n:Nat)(hn:n<y.U.length)(hc:n<cs.length)(hy:y.U.length<=1000)(LF:cs.length<=1000):
  UB prog J9 108 [] [y.av,IS cs,I n] [] (I (PX (y.U.getD n default) (cs.getD n 0))):=by
 refine MD func108 ntmps108 ?_;intro w e X hC;refine Fm (bp hn) ?_ ?_<;>intro c1
 .refine OD ?_;try rfl
  rw[PX,iP c1];rfl
 refine xT (ma hc) ?_;try rfl
 rw[PX,iN c1];rfl
structure YS(xs:List Nd)(fs:List T3):Prop where
 len:fs.length<=1000
 ok:∀i,i<fs.length->∀n,n<xs.length->(fs.getD i default).b=n->0<=(fs.getD i default).c/\(fs.getD i default).c<(xs.getD n default).ln
structure Zc(xs:List Nd)(p:Pl):Prop where
 xl:xs.length<=1000
 sl:p.Q.length=xs.length
 bl:p.R.length=xs.length
 row:∀n,n<xs.length->(p.Q.getD n []).length=(xs.getD n default).ln.toNat
 bin:∀n,n<xs.length->(p.R.getD n []).length<=500
 ln:∀n,n<xs.length->0<=(xs.getD n default).ln/\(xs.getD n default).ln<=500
 st:∀n,n<xs.length->c9 (xs.getD n default).kd=true->1<=(xs.getD n default).ln
 ex:∀n,n<xs.length->(xs.getD n default).ex.length<=500
def UW(x:Nd)(sl bin:List Int)(c:Int)(fs:List T3)(n:Nat):Int:=
 if x.kd=7 then(if c∈bin then c else 0)
 else if c9 x.kd=false\/c=-1\/(u_ fs n x.ln.toNat).getD (x.ln.toNat-1) 0=1 then 0
 else sl.getD (x.ln.toNat-1) 0
def Ot(fs:List T3)(n:Int)(ln:Nat):(u_ fs n ln).length=ln:=BJ fs n ln _
theorem GP(y:Ly)(p:Pl)(cs:List Int)(fs:List T3)(n:Nat)(hp:Zc y.U p)(hf:YS y.U fs)(hn:n<y.U.length)(hc:cs.length=y.U.length):
  UB prog J9 107 [] [y.av,p.av,IS cs,.sl (YA fs) false,I n] [] (I (UW (y.U.getD n default) (p.Q.getD n []) (p.R.getD n []) (cs.getD n 0) fs n)):=by
 have xE:=hp.xl;have lS:n<cs.length:=oM;have bE:n<p.Q.length:=dj;have wu:n<p.R.length:=by rw[hp.bl];exact hn
 have OT:=hp.bin n hn;have s6:=hp.row n hn;have fo:=hp.ln n hn;have VV:=hp.st n hn;have cQ:=hf.len;have UY:=Kt y fs n hn xE hf.len oM (fun i hi hb=>hf.ok i hi n hn hb);have TX:=Ot fs n (y.U.getD n default).ln.toNat;generalize e1:y.U.getD n default=x at*;generalize e2:p.Q.getD n []=sl at*;generalize e3:p.R.getD n []=bin at*;generalize e4:cs.getD n 0=c at*;refine MD func107 ntmps107 ?_;intro w e X hC;iterate 2 refine Bj (uI (bp hn) @e1) ?_
 by_cases c1:x.kd=7
 .have d1:decide (x.kd=7)=true:=dT c1;refine VF @d1 ?_;refine Dp (uI (au wu) (uI (ma lS) (uI @e3 @e4))) ?_;refine R6 ((kQ bin c oM)) ?_;refine Wc ?_ ?_<;>intro c2
  .refine xT (uI (ma lS) @e4) ?_;try rfl
   simp only[go_sem,UW,iP c1,iP c2]
  refine OD ?_;try rfl
  simp only[go_sem,UW,iP c1,iN c2]
 have d1:decide (x.kd=7)=false:=dF c1;refine VF @d1 ?_;cases c2:c9 x.kd with
 |false=>
  refine uD ?_;intro K hK;refine eh ((R5 x.kd)) ?_;first|refine Z6 @c2 ?_|exact an @c2
  refine uH ?_;refine hK _ ?_;clear hK K;refine X3 ?_;refine uJ ?_;try rfl
  simp only[go_sem,UW,iN c1,c2,true_or]
 |true=>
  have Wo:=VV c2;by_cases c3:c=-1
  .have d3:decide (c=-1)=true:=dT c3;refine uD ?_;intro K hK;refine eh ((R5 x.kd)) ?_;first|refine Z6 (uI @c2 (uI (ma lS) (uI @e4 @d3))) ?_|exact an (uI @c2 (uI (ma lS) (uI @e4 @d3)))
   refine uH ?_;refine hK _ ?_;clear hK K;refine X3 ?_;refine uJ ?_;try rfl
   simp only[go_sem,UW,iN c1,c3,true_or,or_true]
  have d3:decide (c=-1)=false:=dF c3;have IQ:x.ln.toNat-1<(u_ fs n x.ln.toNat).length:=oM;have I5:x.ln.toNat-1<sl.length:=oM;have d_:(x.ln-1).toNat=x.ln.toNat-1:=oM;refine uD ?_;intro K hK;refine eh ((R5 x.kd)) ?_;first|refine Z6 (uI @c2 (uI (ma lS) (uI @e4 @d3))) ?_|exact an (uI @c2 (uI (ma lS) (uI @e4 @d3)))
  refine uH ?_;refine cP UY ?_;refine uS ?_;first|refine Z6 (uI @d_ (ma IQ)) ?_|exact an (uI @d_ (ma IQ))
  refine uH ?_;refine hK _ ?_;clear hK K;have dK:¬(c9 x.kd=false\/c=-1):=by rw[c2];simp[c3]
  refine Wc ?_ ?_<;>intro c4
  .refine OD ?_;try rfl
   rw[UW,iN c1,iP (.inr (.inr c4))];rfl
  have yU:¬(c9 x.kd=false\/c=-1\/(u_ fs n x.ln.toNat).getD (x.ln.toNat-1) 0=1):=fun h=>h.elim (fun h=>dK (.inl h)) (fun h=>h.elim (fun h=>dK (.inr h)) c4);have hl4:x.ln.toNat-1<(p.Q.getD n []).length:=by rw[e2];exact I5
  refine zr (uI (au bE) (uI @e2 (uI @d_ (ma I5)))) ?_;refine uJ ?_;try rfl
  rw[UW,iN c1,iN yU];rfl
def EQ(xs:List Nd)(f:T3):Int:=
 if f.a≠1/\f.a≠2 then 4
 else if f.b<0\/(xs.length:Int)<=f.b\/f.c<0\/(xs.getD f.b.toNat default).ln<=f.c then 1 else 0
def PH(xs:List Nd):List T3->Int
 |[]=>0|f::r=>if EQ xs f≠0 then EQ xs f else PH xs r
def BR(xs:List Nd)(cs:List Int):Bool:=(List.range cs.length).all fun i=>jo (xs.getD i default) (cs.getD i 0)
def CH(fs:List T3):Bool:=(List.range fs.length).any fun i=>(List.range i).any fun k=>decide ((fs.getD i default).b=(fs.getD k default).b)&&decide ((fs.getD i default).c=(fs.getD k default).c)
def Zk(xs:List Nd)(cs:List Int)(fs:List T3):Int:=
 if cs.length≠xs.length then 1
 else if BR xs cs=false then 1
 else if 4<fs.length then 2
 else if PH xs fs≠0 then PH xs fs
 else if CH fs=true then 5 else 0
theorem OC{xs:List Nd}:∀{fs:List T3}{i:Nat},i<fs.length->PH xs (fs.drop i)=if EQ xs (fs.getD i default)≠0 then EQ xs (fs.getD i default) else PH xs (fs.drop (i+1))
 |[],i,h=>tC|f::r,0,_=>by simp[PH]|f::r,i+1,h=>by have:=OC (xs:=xs) (fs:=r) (i:=i) A6;simpa using this
def EC(y:Ly)(cs:List Int)(fs:List T3)(hy:y.U.length<=1000)(LF:cs.length<=1000)(BE:fs.length<=1000)(hex:∀n,n<y.U.length->(y.U.getD n default).ex.length<=500):
  UB prog J9 73 [] [y.av,IS cs,.sl (YA fs) false] [] (I (Zk y.U cs fs)):=by
 refine MD func73 ntmps73 ?_;intro w e X hC;refine C0 ?_ ?_<;>intro c1
 .refine OD ?_;try rfl
  rw[Zk,iP oM];rfl
 have c1':¬(cs.length≠y.U.length):=oM;refine EP ?_;refine R7 cs.length (fun i:Az=>⟨[(1,IS cs),(2,.sl (YA fs) false),(3,.p 103 1 0 0 0),(7,I i.2)],(103,some (1,.box (r8 y)))::[],i.1⟩) (fun i=>∀j,j<i.2->jo (y.U.getD j default) (cs.getD j 0)=true) (fun j hj=>absurd hj (nZ _)) (ch) ?_;intro ck i hi hj;simp only at hj;refine C0 ?_ ?_<;>intro h
 .have XJ:i<cs.length:=oM;have PP:i<y.U.length:=oM;cases c2:jo (y.U.getD i default) (cs.getD i 0)with
  |false=>
   refine Dp (uI (bp PP) (ma XJ)) ?_;intro K hK;refine Dx ((xC (y.U.getD i default) (cs.getD i 0) iC)) ?_;first|refine Z6 @c2 ?_|exact an @c2
   refine uH ?_;refine hK _ ?_;clear hK K;refine X3 ?_;refine uJ ?_;try rfl
   have:BR y.U cs=false:=by rw[BR,HB];exact⟨i,BD.2 XJ,by rw[c2];simp⟩
   rw[Zk,iN c1',iP this];rfl
  |true=>
   refine Dp (uI (bp PP) (ma XJ)) ?_;intro K hK;refine Dx ((xC (y.U.getD i default) (cs.getD i 0) iC)) ?_;first|refine Z6 @c2 ?_|exact an @c2
   refine uH ?_;refine hK _ ?_;clear hK K;refine X3 ?_;refine⟨(_,i+1),⟨uO,fun j tw=>?_⟩,uO,ch⟩;by_cases ZJ:j=i
   .subst ZJ;exact c2
   exact hj j DG
 refine El ?_;have c2:BR y.U cs=true:=by rw[BR,FR];intro j tw;exact hj j HQ
 have c2':¬BR y.U cs=false:=by rw[c2];simp
 clear hj hi h;refine C0 ?_ ?_<;>intro c3
 .refine OD ?_;try rfl
  rw[Zk,iN c1',iN c2',iP oM];rfl
 have c3':¬4<fs.length:=oM;have e0:Zk y.U cs fs=if PH y.U fs≠0 then PH y.U fs else if CH fs=true then 5 else 0:=by rw[Zk,iN c1',iN c2',iN c3']
 rw[e0];refine EP ?_;refine R7 fs.length (fun i:Az=>⟨[(2,.sl (YA fs) false),(3,.p 103 1 0 0 0),(8,I i.2)],(103,some (1,.box (r8 y)))::[],i.1⟩) (fun i=>PH y.U fs=PH y.U (fs.drop i.2)) rfl (ch) ?_;intro ck i hi hj;simp only at hj;refine C0 ?_ ?_<;>intro h
 .have PP:i<fs.length:=oM;have e5:=OC (xs:=y.U) PP;rw[e5]at hj;generalize e3:fs.getD i default=f at*;by_cases k1:f.a≠1/\f.a≠2
  .have d1:decide (¬f.a=1)=true:=dT k1.1;have d2:decide (¬f.a=2)=true:=dT k1.2;have e6:EQ y.U f=4:=iP k1;rw[e6]at hj;refine Ij (uI (Hr PP) (uI @e3 (uI @d1 @d2))) ?_;try rfl
   rw[hj];rfl
  have e7:EQ y.U f=if f.b<0\/(y.U.length:Int)<=f.b\/f.c<0\/(y.U.getD f.b.toNat default).ln<=f.c then 1 else 0:=iN k1
  have k2:f.a=1\/f.a=2:=oM;by_cases k3:f.b<0\/(y.U.length:Int)<=f.b\/f.c<0\/(y.U.getD f.b.toNat default).ln<=f.c
  .rw[iP k3]at e7;rw[e7]at hj;by_cases b1:f.b<0
   .rcases k2 with k2|k2
    .refine P7 (uI (Hr PP) (uI @e3 (uI @k2 @b1))) (uI (Hr PP) (uI @e3 (uI @k2 @b1))) ?_;try rfl
     rw[hj];rfl
    refine P7 (uI (Hr PP) (uI @e3 (uI @k2 @b1))) (uI (Hr PP) (uI @e3 (uI @k2 @b1))) ?_;try rfl
    rw[hj];rfl
   by_cases b2:(y.U.length:Int)<=f.b
   .rcases k2 with k2|k2
    .refine P7 (uI (Hr PP) (uI @e3 (uI @k2 (uI @b1 @b2)))) (uI (Hr PP) (uI @e3 (uI @k2 (uI @b1 @b2)))) ?_;try rfl
     rw[hj];rfl
    refine P7 (uI (Hr PP) (uI @e3 (uI @k2 (uI @b1 @b2)))) (uI (Hr PP) (uI @e3 (uI @k2 (uI @b1 @b2)))) ?_;try rfl
    rw[hj];rfl
   by_cases b3:f.c<0
   .rcases k2 with k2|k2
    .refine P7 (uI (Hr PP) (uI @e3 (uI @k2 (uI @b1 (uI @b2 @b3))))) (uI (Hr PP) (uI @e3 (uI @k2 (uI @b1 (uI @b2 @b3))))) ?_;try rfl
     rw[hj];rfl
    refine P7 (uI (Hr PP) (uI @e3 (uI @k2 (uI @b1 (uI @b2 @b3))))) (uI (Hr PP) (uI @e3 (uI @k2 (uI @b1 (uI @b2 @b3))))) ?_;try rfl
    rw[hj];rfl
   have b4:(y.U.getD f.b.toNat default).ln<=f.c:=oM;have OT:f.b.toNat<y.U.length:=oM;rcases k2 with k2|k2
   .refine P7 (uI (Hr PP) (uI @e3 (uI @k2 (uI @b1 (uI @b2 (uI @b3 (uI @b4 (bp OT)))))))) (uI (Hr PP) (uI @e3 (uI @k2 (uI @b1 (uI @b2 (uI @b3 (uI @b4 (bp OT)))))))) ?_;try rfl
    rw[hj];rfl
   refine P7 (uI (Hr PP) (uI @e3 (uI @k2 (uI @b1 (uI @b2 (uI @b3 (uI @b4 (bp OT)))))))) (uI (Hr PP) (uI @e3 (uI @k2 (uI @b1 (uI @b2 (uI @b3 (uI @b4 (bp OT)))))))) ?_;try rfl
   rw[hj];rfl
  rw[iN k3]at e7;rw[e7]at hj;have b1:¬f.b<0:=fun h=>k3 (.inl h);have b2:¬(y.U.length:Int)<=f.b:=fun h=>k3 (.inr (.inl h));have b3:¬f.c<0:=fun h=>k3 (.inr (.inr (.inl h)));have b4:¬(y.U.getD f.b.toNat default).ln<=f.c:=fun h=>k3 (.inr (.inr (.inr h)));have OT:f.b.toNat<y.U.length:=oM;rcases k2 with k2|k2
  .refine VF (uI (Hr PP) (uI @e3 (uI @k2 (uI @b1 (uI @b2 (uI @b3 (uI @b4 (bp OT)))))))) ?_;refine zr (uI (Hr PP) (uI @e3 (uI @k2 (uI @b1 (uI @b2 (uI @b3 (uI @b4 (bp OT)))))))) ?_;refine X3 ?_;refine⟨(_,i+1),⟨uO,YD⟩,uO,ch⟩
  refine VF (uI (Hr PP) (uI @e3 (uI @k2 (uI @b1 (uI @b2 (uI @b3 (uI @b4 (bp OT)))))))) ?_;refine zr (uI (Hr PP) (uI @e3 (uI @k2 (uI @b1 (uI @b2 (uI @b3 (uI @b4 (bp OT)))))))) ?_;refine X3 ?_;refine⟨(_,i+1),⟨uO,YD⟩,uO,ch⟩
 refine El ?_;have KO:¬PH y.U fs≠0:=by rw[hj,Db oM];simp[PH]
 rw[iN KO];clear hj hi h;refine EP ?_;refine R7 fs.length (fun i:Az=>⟨[(2,.sl (YA fs) false),(10,I i.2)],[],i.1⟩) (fun i=>∀j,j<i.2->∀k,k<j->¬((fs.getD j default).b=(fs.getD k default).b/\(fs.getD j default).c=(fs.getD k default).c)) (fun j hj=>absurd hj (nZ _)) (ch) ?_;intro ck i hi hj;simp only at hj;refine C0 ?_ ?_<;>intro h
 .have PP:i<fs.length:=oM;refine EP ?_;refine R7 i (fun k:Az=>⟨[(2,.sl (YA fs) false),(10,I i),(11,I k.2)],[],k.1⟩) (fun k=>∀j,j<k.2->¬((fs.getD i default).b=(fs.getD j default).b/\(fs.getD i default).c=(fs.getD j default).c)) (fun j hj=>absurd hj (nZ _)) (ch) ?_;intro ck k hk DE;simp only at DE;refine C0 ?_ ?_<;>intro h2
  .have mN:k<i:=oM;have DN:k<fs.length:=oM;have akm:(fs.getD i default).b=(fs.getD k default).b/\(fs.getD i default).c=(fs.getD k default).c->CH fs=true:=by intro hh;rw[CH,X4];refine⟨i,BD.2 PP,?_⟩;rw[X4];exact⟨k,BD.2 mN,by rw[dT hh.1,dT hh.2];rfl⟩
   generalize e3:fs.getD i default=f at*;generalize e4:fs.getD k default=q at*;by_cases b1:f.b=q.b
   .by_cases b2:f.c=q.c
    .have d1:decide (f.b=q.b)=true:=dT b1;have d2:decide (f.c=q.c)=true:=dT b2;refine zr (uI (Hr PP) (uI (Hr DN) (uI @e3 (uI @e4 (uI @d1 @d2))))) ?_;refine X3 ?_;refine uJ ?_;try rfl
     rw[akm ⟨b1,b2⟩];rfl
    have d1:decide (f.b=q.b)=true:=dT b1;have d2:decide (f.c=q.c)=false:=dF b2;refine zr (uI (Hr PP) (uI (Hr DN) (uI @e3 (uI @e4 (uI @d1 @d2))))) ?_;refine X3 ?_;refine⟨(_,k+1),⟨uO,fun j tw=>?_⟩,uO,ch⟩;by_cases pC:j=k
    .subst pC;rw[e4];exact fun h=>b2 h.2
    exact DE j DG
   have d1:decide (f.b=q.b)=false:=dF b1;refine zr (uI (Hr PP) (uI (Hr DN) (uI @e3 (uI @e4 @d1)))) ?_;refine X3 ?_;refine⟨(_,k+1),⟨uO,fun j tw=>?_⟩,uO,ch⟩;by_cases pC:j=k
   .subst pC;rw[e4];exact fun h=>b1 h.1
   exact DE j DG
  refine jq ?_;refine⟨(_,i+1),⟨uO,fun j tw=>?_⟩,uO,ch⟩;by_cases ZJ:j=i
  .subst ZJ;exact fun k' tF=>DE k' oM
  exact hj j DG
 refine El ?_;have hd:¬CH fs=true:=by rw[CH,X4];rintro⟨j,AA,pO⟩;rw[X4]at pO;obtain⟨k,P',BF⟩:=pO;rw[TF,Vd,Vd]at BF;exact hj j (by have:=BD.1 AA;omega) k (BD.1 P') BF
 refine OD ?_;try rfl
 rw[iN hd];rfl
def Y3(x:Nd)(sl:List Int):Bool:=
 if c9 x.kd=true then decide (sl.getD 0 0=0)&&(decide (¬x.kd=5)||decide (2<=E4 sl)) else true
def FL(xs:List Nd)(p:Pl):Nat->List Bool
 |0=>[]|i+1=>FL xs p i++[Y3 (xs.getD i default) (p.Q.getD i [])]
theorem TN(xs:List Nd)(p:Pl):∀i,(FL xs p i).length=i
 |0=>rfl|i+1=>by rw[FL,aL,TN xs p i];rfl
def acw(y:Ly)(p:Pl)(hp:Zc y.U p):
  UB prog J9 105 [] [y.av,p.av] [(100,some (1,.own 4 1 (IM (FL y.U p y.U.length))))] (.l 100 1 0 y.U.length):=by
 have xE:=hp.xl;refine MD func105 ntmps105 ?_;intro w e X hC;refine EP ?_;refine AJ y.U.length (fun i:Az=>⟨[(2,.p 102 1 0 0 0),(3,.p 103 2 0 0 0),(5,.l 105 4 0 i.2),(6,I i.2)],(105,some (4,.own 4 1 (IM (FL y.U p i.2))))::(102,some (1,.box (r8 y)))::(103,some (2,.box (GE p)))::[],i.1⟩) (ch) ?_;intro ck i hi;have qp:=TN y.U p i;have e1:FL y.U p (i+1)=FL y.U p i++[Y3 (y.U.getD i default) (p.Q.getD i [])]:=rfl;generalize e9:FL y.U p i=o at*;refine C0 ?_ ?_<;>intro h
 .have hn:i<y.U.length:=oM;have bE:i<p.Q.length:=dj;have s6:=hp.row i hn;have fo:=hp.ln i hn;have VV:=hp.st i hn;generalize e2:y.U.getD i default=x at*;generalize e3:p.Q.getD i []=sl at*;refine uZ ?_;cases c1:c9 x.kd with
  |false=>
   have e4:Y3 x sl=true:=by rw[Y3,c1];rfl
   refine nF (uI (bp hn) @e2) ?_;intro K hK;refine Dx ((R5 x.kd)) ?_;first|refine Z6 @c1 ?_|exact an @c1
   refine hK _ ?_;clear hK K;refine uF ?_;refine aH @qp ?_;exact nX (_,i+1) (wH (uI @e1 @e4))
  |true=>
   have RO:0<sl.length:=by have:=VV c1;omega
   have e4:Y3 x sl=(decide (sl.getD 0 0=0)&&(decide (¬x.kd=5)||decide (2<=E4 sl))):=by rw[Y3,c1];rfl
   have Zw:E4 sl<=sl.length:=pr;have ef:decide ((2:Int)<=(E4 sl:Int))=decide (2<=E4 sl):=by by_cases h:2<=E4 sl<;>simp[h]<;>omega
   refine nF (uI (bp hn) @e2) ?_;intro K hK;refine Dx ((R5 x.kd)) ?_;first|refine Z6 @c1 ?_|exact an @c1
   refine hK _ ?_;clear hK K;refine uT ?_;by_cases c2:sl.getD 0 0=0
   .have d2:decide (sl.getD 0 0=0)=true:=dT c2;by_cases c3:x.kd=5
    .have d3:decide (¬x.kd=5)=false:=dF (fun h=>h c3);refine nF (uI (bp hn) (uI @e2 (uI (au bE) (uI @e3 (uI (ma RO) (uI @ic (uI @d2 @d3))))))) ?_;refine I6 ((ajY sl oM)) ?_;have e5:Y3 x sl=decide (2<=(E4 sl:Int)):=by rw[e4,ef,d2,d3];rfl
     refine aH @qp ?_;exact nX (_,i+1) (wH (uI @e1 @e5))
    have d3:decide (¬x.kd=5)=true:=dT c3;refine cx (uI (bp hn) (uI @e2 (uI (au bE) (uI @e3 (uI (ma RO) (uI @ic (uI @d2 @d3))))))) ?_;have e5:Y3 x sl=true:=by rw[e4,d2,d3];rfl
    refine aH @qp ?_;exact nX (_,i+1) (wH (uI @e1 @e5))
   have d2:decide (sl.getD 0 0=0)=false:=dF c2;refine cx (uI (bp hn) (uI @e2 (uI (au bE) (uI @e3 (uI (ma RO) (uI @ic @d2)))))) ?_;have e5:Y3 x sl=false:=by rw[e4,d2];rfl
   refine aH @qp ?_;exact nX (_,i+1) (wH (uI @e1 @e5))
 refine El ?_;have jk:i=y.U.length:=oM;subst jk;refine uZ ?_;rw[e9];refine A_ ?_;rw[show f105.results.toList=[.tmp 4] from rfl];(refine Me [(100,1,105,4)] Xs sM sM sM I3 I3 I3 ?_ ?_;all_goals (first|refine UR ?_|exact Xv|skip))
def zt(n lo hi:Int):Bool:=decide (lo<=n)&&decide (n<=hi)
def WY(n lo hi:Int):UB prog J9 159 [] [I n,I lo,I hi] [] (B (zt n lo hi)):=by
 refine MD func159 ntmps159 ?_;intro w e X hC;refine uA ?_;by_cases c1:lo<=n
 .have d1:decide (lo<=n)=true:=dT c1;refine xT @d1 ?_;try rfl
  simp only[go_sem,zt,d1,Q2]
 have d1:decide (lo<=n)=false:=dF c1;refine xT @d1 ?_;try rfl
 simp only[go_sem,zt,d1,aS]
def WW(kd:Int):Int:=if kd=4\/kd=5\/kd=6 then 2 else if kd=8\/kd=9 then 0 else 1
def rn(kd:Int):UB prog J9 176 [] [I kd] [] (I (WW kd)):=by
 refine MD func176 ntmps176 ?_;intro w e X hC;iterate 2 refine uA ?_
 have kds:kd=4\/kd=5\/kd=6\/kd=8\/kd=9\/(¬kd=4/\¬kd=5/\¬kd=6/\¬kd=8/\¬kd=9):=oM;rcases kds with c|c|c|c|c|⟨c1,c2,c3,c4,c5⟩
 .subst c;refine X3 ?_;exact uP
 .subst c;refine X3 ?_;exact uP
 .subst c;refine X3 ?_;exact uP
 .subst c;refine X3 ?_;exact uP
 .subst c;refine X3 ?_;exact uP
 have e1:WW kd=1:=by simp[WW,c1,c2,c3,c4,c5]
 refine Ij (uI @c1 (uI @c2 (uI @c3 (uI @c4 @c5)))) ?_;try rfl
 exact an @e1
def cS(x:Nd)(f t:Int):Bool:=decide (¬f=t)&&decide (t∈x.ex)
def Ki(y:Ly)(f:Nat)(t:Int)(hf:f<y.U.length)(hy:y.U.length<=1000)(hx:(y.U.getD f default).ex.length<=1000):
  UB prog J9 209 [] [y.av,I f,I t] [] (B (cS (y.U.getD f default) f t)):=by
 refine MD func209 ntmps209 ?_;intro w e X hC;refine uA ?_;by_cases c1:(f:Int)=t
 .have d1:decide (¬(f:Int)=t)=false:=dF (fun h=>h c1);refine xT @d1 ?_;try rfl
  simp only[go_sem,cS,d1,aS]
 have d1:decide (¬(f:Int)=t)=true:=dT c1;refine nF (uI @d1 (bp hf)) ?_;refine I6 ((kQ (y.U.getD f default).ex t oM)) ?_;refine uJ ?_;try rfl
 simp only[go_sem,cS,d1,Q2]
def D1(xs:List Nd):Nat->Int
 |0=>0|i+1=>D1 xs i+(xs.getD i default).ln
theorem wP{xs:List Nd}(hx:∀i,i<xs.length->0<=(xs.getD i default).ln/\(xs.getD i default).ln<=1000):∀i,i<=xs.length->0<=D1 xs i/\D1 xs i<=1000*i
 |0,_=>by simp[D1]|i+1,h=>by have:=wP hx i oM;have:=hx i oM;rw[D1];omega
def Pc(xs:List Nd):Int:=D1 xs xs.length
def arO(y:Ly)(hy:y.U.length<=1000)(hx:∀i,i<y.U.length->0<=(y.U.getD i default).ln/\(y.U.getD i default).ln<=1000):
  UB prog J9 156 [] [y.av] [] (I (Pc y.U)):=by
 refine MD func156 ntmps156 ?_;intro w e X hC;refine EP ?_;refine AJ y.U.length (fun i:Az=>⟨[(1,.p 101 1 0 0 0),(3,I (D1 y.U i.2)),(4,I i.2)],(101,some (1,.box (r8 y)))::[],i.1⟩) (ch) ?_;intro ck i hi;have hb:=wP hx i hi;have e1:D1 y.U (i+1)=D1 y.U i+(y.U.getD i default).ln:=rfl;generalize e9:D1 y.U i=o at*;refine C0 ?_ ?_<;>intro h
 .have hn:i<y.U.length:=oM;have Fr:=hx i hn;refine aH (bp hn) ?_;exact nX (_,i+1) (wT @e1)
 refine El ?_;have jk:i=y.U.length:=oM;subst jk;refine OD ?_;try rfl
 rw[Pc,e9];rfl
def IP{a b:ByteArray}(h:a.data.toList=b.data.toList):a=b:=by
 cases a;cases b
 congr 1
 exact We.1 h
def py(xs:List Nd)(nm:ByteArray):Int:=match xs.findIdx? fun x=>decide (x.nm=nm)with|some i=>i|none=>-1
def Av(y:Ly)(nm:ByteArray)(hy:y.U.length<=1000):UB prog J9 126 [] [y.av,S nm] [] (I (py y.U nm)):=by
 refine MD func126 ntmps126 ?_;intro w e X hC;refine EP ?_;refine R7 y.U.length (fun i:Az=>⟨[(1,S nm),(2,.p 102 1 0 0 0),(5,I i.2)],(102,some (1,.box (r8 y)))::[],i.1⟩) (fun i=>∀j,j<i.2->(y.U.getD j default).nm≠nm) (fun j hj=>absurd hj (nZ _)) (ch) ?_;intro ck i hi hj;simp only at hj;refine C0 ?_ ?_<;>intro h
 .have hn:i<y.U.length:=oM;refine Fm (bp hn) ?_ ?_<;>intro c1
  .have c2:=IP c1;refine uZ ?_;have e1:(y.U.findIdx? fun x=>decide (x.nm=nm))=some i:=by rw[tV];refine⟨hn,by simpa[hn] using c2,fun j tw=>?_⟩;have pO:j<y.U.length:=oM;simpa[pO] using hj j tw
   refine uJ ?_;try rfl
   rw[py,e1];rfl
  refine uZ ?_;refine⟨(_,i+1),⟨uO,fun j tw=>?_⟩,uO,ch⟩;by_cases ZJ:j=i
  .subst ZJ;exact fun h=>c1 (by rw[h])
  exact hj j DG
 refine El ?_;have e1:(y.U.findIdx? fun x=>decide (x.nm=nm))=none:=by rw[n4];intro x hx;obtain⟨j,tw,rfl⟩:=G_ hx;simpa[tw] using hj j oM
 refine OD ?_;try rfl
 rw[py,e1];rfl
def rv(xs:List Nd)(out:List Int)(i:Nat):Nat->Bool
 |0=>!decide ((i:Int)∈out)|k+1=>if cS (xs.getD k default) k i=true/\¬(k:Int)∈out then false else rv xs out i k
def jt(xs:List Nd)(out:List Int):Nat->Int
 |0=>-1|c+1=>if rv xs out (xs.length-1-c) xs.length=true then((xs.length-1-c:Nat):Int) else jt xs out c
def VE(xs:List Nd)(out:List Int):Int:=jt xs out xs.length
def Fx(xs:List Nd):Nat->List Int
 |0=>[]|n+1=>if VE xs (Fx xs n)<0 then Fx xs n else Fx xs n++[VE xs (Fx xs n)]
theorem kg{xs:List Nd}{n:Nat}(h:VE xs (Fx xs n)<0):∀m,Fx xs (n+m)=Fx xs n
 |0=>rfl|m+1=>by have ih:=kg h m;rw[Nat.add_succ,Fx,ih,iP h]
theorem M0{xs:List Nd}{out:List Int}:∀c,jt xs out c<max 1 (xs.length:Int)
 |0=>by rw[jt];omega|c+1=>by have:=M0 (xs:=xs) (out:=out) c;rw[jt];split<;>omega
def WR(xs:List Nd):List Int:=Fx xs xs.length
def o_(y:Ly)(hy:y.U.length<=1000)(hx:∀i,i<y.U.length->(y.U.getD i default).ex.length<=1000):
  UB prog J9 158 [] [y.av] [] (IS (WR y.U)):=by
 refine MD func158 ntmps158 ?_;intro w e X hC;refine EP ?_;refine R7 y.U.length (fun i:Az=>⟨[(1,.p 101 1 0 0 0),(3,.l 103 3 0 i.2)],(103,some (3,.own 3 1 (tk (Fx y.U i.2))))::(101,some (1,.box (r8 y)))::[],i.1⟩) (fun i=>(Fx y.U i.2).length=i.2) rfl (ch) ?_;intro ck n hn S0;simp only at S0;have e1:Fx y.U (n+1)=if VE y.U (Fx y.U n)<0 then Fx y.U n else Fx y.U n++[VE y.U (Fx y.U n)]:=rfl
 have VV (h:VE y.U (Fx y.U n)<0):WR y.U=Fx y.U n:=by have:=kg h (y.U.length-n);rw[show n+(y.U.length-n)=y.U.length by omega]at this;exact this
 have FK (h:n=y.U.length):WR y.U=Fx y.U n:=by rw[h];rfl
 generalize e9:Fx y.U n=o at*;refine Fm @S0 ?_ ?_<;>intro h
 .have PP:n<y.U.length:=oM;refine aH @S0 ?_;have ei:(y.U.length:Int)-1=((y.U.length:Int)-1-((0:Nat):Int)):=oM;refine uW ?_;refine AJ y.U.length (fun c:Az=>⟨[(1,.p 101 1 0 0 0),(3,.l 103 3 0 n),(4,I (jt y.U o c.2)),(5,I ((y.U.length:Int)-1-c.2))],(103,some (3,.own 3 1 (tk o)))::(101,some (1,.box (r8 y)))::[],c.1⟩) (.of (lR _) aq (by repeat (first|exact O6.nil|refine O6.cons rfl ?_|(refine O6.cons ?_ ?_;(focus (simp only[go_sem,<-ei];done)))|(refine O6.snap ?_ ?_ ?_ ?_;(focus (first|exact trivial|(simp only[go_sem,<-ei]<;>trivial)));(focus (first|rfl|((simp only[go_sem,<-ei]<;>rfl);done)));(focus (first|(simp only[go_sem,<-ei];done)|((simp only[go_sem,<-ei]<;>simp);done)|(simp;done))))))) ?_;intro ck c hc;refine C0 ?_ ?_<;>intro h2
  .have iS:c<y.U.length:=oM;obtain⟨i,hi⟩:∃i,i=y.U.length-1-c:=⟨_,rfl⟩;have amT:(y.U.length:Int)-1-c=i:=oM;have T6:i<y.U.length:=oM;have e2:jt y.U o (c+1)=if rv y.U o i y.U.length=true then(i:Int) else jt y.U o c:=by rw[jt,<-hi]
   have e3:(i:Int)-1=(y.U.length:Int)-1-((c+1:Nat):Int):=oM;simp only[amT];generalize jt y.U o c=nx at*;refine uR ?_;intro K hK;refine uH ?_;refine oj (rc:=B (decide ((i:Int)∈o))) ?_ ?_ ?_ ?_ ?_ ?_;(focus (first|exact trivial|(simp only[go_sem,S0]<;>trivial)));(focus (simp only[go_sem,S0];exact(kQ o i oM)));(focus (first|exact trivial|(simp only[go_sem,S0]<;>trivial)));(focus (first|exact trivial|(simp only[go_sem,S0]<;>trivial)));(focus (first|exact trivial|(simp only[go_sem,S0]<;>trivial)));first|refine Z6 @S0 ?_|exact an @S0
   refine hK _ ?_;clear hK K;refine uZ ?_;have e5:rv y.U o i 0=!decide ((i:Int)∈o):=rfl;refine uW ?_;refine AJ y.U.length (fun k:Az=>⟨[(1,.p 101 1 0 0 0),(3,.l 103 3 0 n),(4,I nx),(5,I i),(6,B (rv y.U o i k.2)),(7,I k.2)],(103,some (3,.own 3 1 (tk o)))::(101,some (1,.box (r8 y)))::[],k.1⟩) (wT @e5) ?_;intro ck k hk;refine C0 ?_ ?_<;>intro h3
   .have DN:k<y.U.length:=oM;have e6:rv y.U o i (k+1)=if cS (y.U.getD k default) k i=true/\¬(k:Int)∈o then false else rv y.U o i k:=rfl
    have ik:=hx k DN;generalize rv y.U o i k=rd at*;cases c1:cS (y.U.getD k default) k i with
    |false=>
     rw[iN (by rw[c1];simp)]at e6;refine uR ?_;intro K hK;refine eh ((Ki y k i DN hy ik)) ?_;first|refine Z6 @c1 ?_|exact an @c1
     refine hK _ ?_;clear hK K;refine X3 ?_;refine uZ ?_;exact nX (_,k+1) (wT @e6)
    |true=>
     by_cases c2:(k:Int)∈o
     .have d2:decide ((k:Int)∈o)=true:=dT c2;rw[iN (fun h=>h.2 c2)]at e6;refine uR ?_;intro K hK;refine eh ((Ki y k i DN hy ik)) ?_;first|refine Z6 @c1 ?_|exact an @c1
      refine oj (rc:=B (decide ((k:Int)∈o))) ?_ ?_ ?_ ?_ ?_ ?_;(focus (first|exact trivial|(simp only[go_sem,S0,d2]<;>trivial)));(focus (simp only[go_sem,S0,d2];exact(by have:=kQ o k oM;simpa only[d2] using this)));(focus (first|exact trivial|(simp only[go_sem,S0,d2]<;>trivial)));(focus (first|exact trivial|(simp only[go_sem,S0,d2]<;>trivial)));(focus (first|exact trivial|(simp only[go_sem,S0,d2]<;>trivial)));first|refine Z6 (uI @S0 @d2) ?_|exact an (uI @S0 @d2)
      refine hK _ ?_;clear hK K;refine X3 ?_;refine uZ ?_;exact nX (_,k+1) (wT @e6)
     have d2:decide ((k:Int)∈o)=false:=dF c2;rw[iP ⟨c1,c2⟩]at e6;refine uR ?_;intro K hK;refine eh ((Ki y k i DN hy ik)) ?_;first|refine Z6 @c1 ?_|exact an @c1
     refine oj (rc:=B (decide ((k:Int)∈o))) ?_ ?_ ?_ ?_ ?_ ?_;(focus (first|exact trivial|(simp only[go_sem,S0,d2]<;>trivial)));(focus (simp only[go_sem,S0,d2];exact(by have:=kQ o k oM;simpa only[d2] using this)));(focus (first|exact trivial|(simp only[go_sem,S0,d2]<;>trivial)));(focus (first|exact trivial|(simp only[go_sem,S0,d2]<;>trivial)));(focus (first|exact trivial|(simp only[go_sem,S0,d2]<;>trivial)));first|refine Z6 (uI @S0 @d2) ?_|exact an (uI @S0 @d2)
     refine hK _ ?_;clear hK K;refine X3 ?_;refine uZ ?_;exact nX (_,k+1) (wT @e6)
   refine El ?_;have tF:k=y.U.length:=oM;subst tF;cases c1:rv y.U o i y.U.length with
   |false=>rw[c1,iN sM]at e2;refine X3 ?_;exact nX (_,c+1) (wT (uI @e2 @e3))|true=>rw[c1,iP rfl]at e2;refine X3 ?_;exact nX (_,c+1) (wT (uI @e2 @e3))
  refine El ?_;have Zp:c=y.U.length:=oM;subst Zp;have e4:jt y.U o y.U.length=VE y.U o:=rfl;rw[e4];refine C0 ?_ ?_<;>intro c1
  .have e5:=VV c1;refine uZ ?_;(refine A_ (SY (Rp @S0) ?_);try rfl)
   exact an (uI @S0 @e5)
  rw[iN c1]at e1;have e6:(Fx y.U (n+1)).length=n+1:=by rw[e1];simp[S0]
  refine aH @S0 ?_;refine⟨(_,n+1),⟨uO,e6⟩,uO,wH @e1⟩
 refine El ?_;have e4:=FK oM;refine uZ ?_;(refine A_ (SY (Rp @S0) ?_);try rfl)
 exact an (uI @S0 @e4)
end Go.Proofs.YtfcgkbinohibcaaGreatDoor
