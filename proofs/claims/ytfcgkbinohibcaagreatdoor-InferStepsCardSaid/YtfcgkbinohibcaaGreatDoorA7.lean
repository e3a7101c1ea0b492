/- Lemmas towards inferSteps_card: no conditions of their own. -/
import Derived.Test.YtfcgkbinohibcaaGreatDoorA6
import Derived.Shelf.Strings.Builder1
import Derived.Shelf.Strings.BuilderF
import Derived.Shelf.Strings.BuilderK
import Derived.Shelf.Strconv.Itoa0
import Derived.Shelf.Strconv.Itoa1
import Derived.Shelf.LaysM
import Derived.Shelf.Strconv.Itoa2
import Derived.Shelf.Strconv.Itoa3
import Derived.Shelf.Strings.BuilderCap
import Derived.Test.YtfcgkbinohibcaaGreatDoorProg
set_option linter.all false
namespace Go.Proofs
open Go.Shelf
def Tryz.PJ:Go.Shelf.Ren:=⟨fun|169=>134|n=>n,fun|70=>184|9=>9|0=>0|72=>186|37=>84|127=>226|3=>3|5=>5|n=>n,fun|n=>n⟩
def Tryz.jY:Go.Proofs.Lays.n169 prog Tryz.PJ:={
 mixed:=kR
 f169:=func134.trans (rD some kR)
 t0:=underlying0
 a0:=isAgg0
 z0:=sizeOf0
 v0:=zeroValue0
 t3:=underlying3
 a3:=isAgg3
 z3:=sizeOf3
 v3:=zeroValue3
 t9:=underlying9
 a9:=isAgg9
 z9:=sizeOf9
 v9:=zeroValue9
 t37:=underlying84
 a37:=isAgg84
 z37:=sizeOf84
 v37:=zeroValue84
 t70:=underlying184
 a70:=isAgg184
 z70:=sizeOf184
 v70:=zeroValue184
 t72:=underlying186
 a72:=isAgg186
 z72:=sizeOf186
 v72:=zeroValue186
 t127:=underlying226
 a127:=isAgg226
 z127:=sizeOf226
 v127:=zeroValue226}
def Tryz.oY:Builder.Extra prog Tryz.PJ:={
 sizeBuilder:=kR
 liesBuilder:=kR
 t5:=underlying5
 a5:=isAgg5
 z5:=sizeOf5
 v5:=zeroValue5
 infoByte:=kR
 cellsByte:=kR
 sizeByte:=kR
 neB5:=by decide}
def Tryz.amB:Go.Shelf.Ren:=⟨fun|171=>132|243=>179|246=>224|283=>259|284=>260|285=>261|286=>262|129=>200|317=>278|318=>279|319=>280|320=>252|337=>270|338=>271|n=>n,fun|3=>3|9=>9|2=>2|4=>4|171=>285|0=>0|53=>242|37=>84|5=>5|173=>287|212=>299|51=>240|20=>20|213=>300|46=>210|232=>303|233=>304|n=>n,fun|17=>1|18=>2|19=>3|n=>n⟩
def Tryz.ad1:Go.Proofs.LaysM.n171 prog Tryz.amB:={
 mixed:=kR
 f129:=func200.trans (rD some kR)
 f171:=func132.trans (rD some kR)
 f243:=func179.trans (rD some kR)
 f246:=func224.trans (rD some kR)
 f283:=func259.trans (rD some kR)
 f284:=func260.trans (rD some kR)
 f285:=func261.trans (rD some kR)
 f286:=func262.trans (rD some kR)
 f317:=func278.trans (rD some kR)
 f318:=func279.trans (rD some kR)
 f319:=func280.trans (rD some kR)
 f320:=func252.trans (rD some kR)
 f337:=func270.trans (rD some kR)
 f338:=func271.trans (rD some kR)
 t0:=underlying0
 a0:=isAgg0
 z0:=sizeOf0
 v0:=zeroValue0
 t2:=underlying2
 a2:=isAgg2
 z2:=sizeOf2
 v2:=zeroValue2
 t3:=underlying3
 a3:=isAgg3
 z3:=sizeOf3
 v3:=zeroValue3
 t4:=underlying4
 a4:=isAgg4
 z4:=sizeOf4
 v4:=zeroValue4
 t5:=underlying5
 a5:=isAgg5
 z5:=sizeOf5
 v5:=zeroValue5
 t9:=underlying9
 a9:=isAgg9
 z9:=sizeOf9
 v9:=zeroValue9
 t20:=underlying20
 a20:=isAgg20
 z20:=sizeOf20
 v20:=zeroValue20
 t37:=underlying84
 a37:=isAgg84
 z37:=sizeOf84
 v37:=zeroValue84
 t46:=underlying210
 a46:=isAgg210
 z46:=sizeOf210
 v46:=zeroValue210
 t51:=underlying240
 a51:=isAgg240
 z51:=sizeOf240
 v51:=zeroValue240
 t53:=underlying242
 a53:=isAgg242
 z53:=sizeOf242
 v53:=zeroValue242
 t171:=underlying285
 a171:=isAgg285
 z171:=sizeOf285
 v171:=zeroValue285
 t173:=underlying287
 a173:=isAgg287
 z173:=sizeOf287
 v173:=zeroValue287
 t212:=underlying299
 a212:=isAgg299
 z212:=sizeOf299
 v212:=zeroValue299
 t213:=underlying300
 a213:=isAgg300
 z213:=sizeOf300
 t232:=underlying303
 a232:=isAgg303
 z232:=sizeOf303
 v232:=zeroValue303
 t233:=underlying304
 a233:=isAgg304
 z233:=sizeOf304
 v233:=zeroValue304
 g17:=kR
 g18:=kR
 g19:=kR
 i0:=kR
 i2:=kR
 i3:=kR
 i4:=kR
 i5:=kR
 i9:=kR
 i20:=kR
 i37:=kR
 i46:=kR
 i51:=kR
 i53:=kR
 i171:=kR
 i173:=kR
 i212:=kR
 i232:=kR
 i233:=kR
 m17:=kR
 m18:=kR
 m19:=by kernel_rfl}
open Go.RowKit Go.Sort Go.Lib in
def Tryz.strconv_Itoa(n:Int)(h0:-9223372036854775808<=n)(h1:n<=9223372036854775807)(w:World)(acm:Lib.TabIs prog w "internal/strconv.uint64pow10" .u64 Lib.pow10Tab):
  Calls prog 132 #[.int .i64 n] w fun e w'=>e=.returned (.string ⟨(Lib.itoa n).toArray⟩)/\∃k os,w'=grow (w.drewN k) os:=Any.strconv_Itoa Tryz.ad1 n h0 h1 w acm
end Go.Proofs
namespace Go.Proofs.YtfcgkbinohibcaaGreatDoor
open Go Go.Sym Go.Proofs.Tryz Go.Great Go.RowKit Go.Proofs Go.Sort
def aaY{w:World}{U:Nat->Prop}(h:XO J9 w U):Lib.TabIs prog w "internal/strconv.uint64pow10" .u64 Lib.pow10Tab:=by obtain⟨_,_,t,fz,hw⟩:=h.full (1,(CT.map fun z=>Value.int .u64 z).toArray) (by simp[J9,Mj]);have e1:prog.globalNamed "internal/strconv.uint64pow10" =some 1:=kR;have e2:(Lib.pow10Tab.map fun z=>Value.int .u64 z).toArray=(CT.map fun z=>Value.int .u64 z).toArray:=vz;unfold Lib.TabIs World.var?;rw[e1,e2];simp only[iD,hw]
def anU(w:World)(k:Nat)(os:Array Obj):Below w.heap.size w (grow (w.drewN k) os):=
 ⟨rfl,rfl,rfl,by show w.heap.size<=(w.heap++os).size;simp,fun b hb=>by show(w.heap++os)[b]?=_;rw[Jl hb]⟩
def ahe(n:Int)(h0:-9223372036854775808<=n)(h1:n<=9223372036854775807):
  UB prog J9 132 [] ([.int .i64 n].map AV.lit) [] (S (strOf (Lib.itoa n))):=by
 refine ajI ⟨f132,func132,vz,vz⟩ fun w U hg=>?_;refine(Tryz.strconv_Itoa n h0 h1 w (aaY hg)).mono ?_;rintro en w' ⟨rfl,k,os,rfl⟩;exact⟨_,rfl,fun U'=>.lit _ rfl,anU w k os,WA _ _⟩
end Go.Proofs.YtfcgkbinohibcaaGreatDoor
