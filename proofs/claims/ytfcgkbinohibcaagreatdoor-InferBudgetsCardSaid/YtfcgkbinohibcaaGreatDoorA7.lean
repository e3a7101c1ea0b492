/- Lemmas towards inferBudgets_card: no conditions of their own. -/
import Derived.Test.YtfcgkbinohibcaaGreatDoorA6
import Derived.Shelf.Strings.Builder1
import Derived.Shelf.Strings.BuilderF
import Derived.Shelf.Strings.BuilderK
import Derived.Shelf.Strconv.Itoa0
import Derived.Shelf.Strconv.Itoa1
import Derived.Shelf.LaysM
import Derived.Shelf.Strconv.Itoa2
import Derived.Shelf.Strconv.Itoa3
import Derived.Shelf.Strings.BuilderCap
import Derived.Test.YtfcgkbinohibcaaGreatDoorProg
set_option linter.all false
namespace Go.Proofs
open Go.Shelf
def Tryz.lays169_ren:Go.Shelf.Ren:=⟨fun|169=>134|n=>n,fun|70=>184|9=>9|0=>0|72=>186|37=>84|127=>226|3=>3|5=>5|n=>n,fun|n=>n⟩
theorem Tryz.lays169:Go.Proofs.Lays.n169 Tryz.prog Tryz.lays169_ren:={
 mixed:=kR
 f169:=Tryz.func134.trans (congrArg some kR)
 t0:=Tryz.underlying0
 a0:=Tryz.isAgg0
 z0:=Tryz.sizeOf0
 v0:=Tryz.zeroValue0
 t3:=Tryz.underlying3
 a3:=Tryz.isAgg3
 z3:=Tryz.sizeOf3
 v3:=Tryz.zeroValue3
 t9:=Tryz.underlying9
 a9:=Tryz.isAgg9
 z9:=Tryz.sizeOf9
 v9:=Tryz.zeroValue9
 t37:=Tryz.underlying84
 a37:=Tryz.isAgg84
 z37:=Tryz.sizeOf84
 v37:=Tryz.zeroValue84
 t70:=Tryz.underlying184
 a70:=Tryz.isAgg184
 z70:=Tryz.sizeOf184
 v70:=Tryz.zeroValue184
 t72:=Tryz.underlying186
 a72:=Tryz.isAgg186
 z72:=Tryz.sizeOf186
 v72:=Tryz.zeroValue186
 t127:=Tryz.underlying226
 a127:=Tryz.isAgg226
 z127:=Tryz.sizeOf226
 v127:=Tryz.zeroValue226}
theorem Tryz.Builder_Extra_169:Builder.Extra Tryz.prog Tryz.lays169_ren:={
 sizeBuilder:=kR
 liesBuilder:=kR
 t5:=Tryz.underlying5
 a5:=Tryz.isAgg5
 z5:=Tryz.sizeOf5
 v5:=Tryz.zeroValue5
 infoByte:=kR
 cellsByte:=kR
 sizeByte:=kR
 neB5:=by decide}
def Tryz.laysM171_ren:Go.Shelf.Ren:=⟨fun|171=>132|243=>179|246=>224|283=>259|284=>260|285=>261|286=>262|129=>200|317=>278|318=>279|319=>280|320=>252|337=>270|338=>271|n=>n,fun|3=>3|9=>9|2=>2|4=>4|171=>285|0=>0|53=>242|37=>84|5=>5|173=>287|212=>299|51=>240|20=>20|213=>300|46=>210|232=>303|233=>304|n=>n,fun|17=>1|18=>2|19=>3|n=>n⟩
theorem Tryz.laysM171:Go.Proofs.LaysM.n171 Tryz.prog Tryz.laysM171_ren:={
 mixed:=kR
 f129:=Tryz.func200.trans (congrArg some kR)
 f171:=Tryz.func132.trans (congrArg some kR)
 f243:=Tryz.func179.trans (congrArg some kR)
 f246:=Tryz.func224.trans (congrArg some kR)
 f283:=Tryz.func259.trans (congrArg some kR)
 f284:=Tryz.func260.trans (congrArg some kR)
 f285:=Tryz.func261.trans (congrArg some kR)
 f286:=Tryz.func262.trans (congrArg some kR)
 f317:=Tryz.func278.trans (congrArg some kR)
 f318:=Tryz.func279.trans (congrArg some kR)
 f319:=Tryz.func280.trans (congrArg some kR)
 f320:=Tryz.func252.trans (congrArg some kR)
 f337:=Tryz.func270.trans (congrArg some kR)
 f338:=Tryz.func271.trans (congrArg some kR)
 t0:=Tryz.underlying0
 a0:=Tryz.isAgg0
 z0:=Tryz.sizeOf0
 v0:=Tryz.zeroValue0
 t2:=Tryz.underlying2
 a2:=Tryz.isAgg2
 z2:=Tryz.sizeOf2
 v2:=Tryz.zeroValue2
 t3:=Tryz.underlying3
 a3:=Tryz.isAgg3
 z3:=Tryz.sizeOf3
 v3:=Tryz.zeroValue3
 t4:=Tryz.underlying4
 a4:=Tryz.isAgg4
 z4:=Tryz.sizeOf4
 v4:=Tryz.zeroValue4
 t5:=Tryz.underlying5
 a5:=Tryz.isAgg5
 z5:=Tryz.sizeOf5
 v5:=Tryz.zeroValue5
 t9:=Tryz.underlying9
 a9:=Tryz.isAgg9
 z9:=Tryz.sizeOf9
 v9:=Tryz.zeroValue9
 t20:=Tryz.underlying20
 a20:=Tryz.isAgg20
 z20:=Tryz.sizeOf20
 v20:=Tryz.zeroValue20
 t37:=Tryz.underlying84
 a37:=Tryz.isAgg84
 z37:=Tryz.sizeOf84
 v37:=Tryz.zeroValue84
 t46:=Tryz.underlying210
 a46:=Tryz.isAgg210
 z46:=Tryz.sizeOf210
 v46:=Tryz.zeroValue210
 t51:=Tryz.underlying240
 a51:=Tryz.isAgg240
 z51:=Tryz.sizeOf240
 v51:=Tryz.zeroValue240
 t53:=Tryz.underlying242
 a53:=Tryz.isAgg242
 z53:=Tryz.sizeOf242
 v53:=Tryz.zeroValue242
 t171:=Tryz.underlying285
 a171:=Tryz.isAgg285
 z171:=Tryz.sizeOf285
 v171:=Tryz.zeroValue285
 t173:=Tryz.underlying287
 a173:=Tryz.isAgg287
 z173:=Tryz.sizeOf287
 v173:=Tryz.zeroValue287
 t212:=Tryz.underlying299
 a212:=Tryz.isAgg299
 z212:=Tryz.sizeOf299
 v212:=Tryz.zeroValue299
 t213:=Tryz.underlying300
 a213:=Tryz.isAgg300
 z213:=Tryz.sizeOf300
 t232:=Tryz.underlying303
 a232:=Tryz.isAgg303
 z232:=Tryz.sizeOf303
 v232:=Tryz.zeroValue303
 t233:=Tryz.underlying304
 a233:=Tryz.isAgg304
 z233:=Tryz.sizeOf304
 v233:=Tryz.zeroValue304
 g17:=kR
 g18:=kR
 g19:=kR
 i0:=kR
 i2:=kR
 i3:=kR
 i4:=kR
 i5:=kR
 i9:=kR
 i20:=kR
 i37:=kR
 i46:=kR
 i51:=kR
 i53:=kR
 i171:=kR
 i173:=kR
 i212:=kR
 i232:=kR
 i233:=kR
 m17:=kR
 m18:=kR
 m19:=by kernel_rfl}
open Go.RowKit Go.Sort Go.Lib in
theorem Tryz.strconv_Itoa (n:Int) (h0:-9223372036854775808<=n) (h1:n<=9223372036854775807) (w:World) (wO:Lib.TabIs Tryz.prog w "internal/strconv.uint64pow10" .u64 Lib.pow10Tab):
  Calls Tryz.prog 132 #[.int .i64 n] w fun e w'=>e= .returned (.string ⟨(Lib.itoa n).toArray⟩)/\∃k os,w'=grow (w.drewN k) os:=Any.strconv_Itoa Tryz.laysM171 n h0 h1 w wO
end Go.Proofs
namespace Go.Proofs.YtfcgkbinohibcaaGreatDoor
open Go Go.Sym Go.Great Go.RowKit Go.Proofs Go.Sort
theorem sL {w:World} {U:Nat->Prop} (h:Gg Ad w U):Lib.TabIs Tryz.prog w "internal/strconv.uint64pow10" .u64 Lib.pow10Tab:=by
 obtain⟨_,_,t,fz,hw⟩:=h.full (1,(Pi.map fun z=>Value.int .u64 z).toArray) (by simp[Ad,ZN]);have e1:Tryz.prog.globalNamed "internal/strconv.uint64pow10" =some 1:=kR;have e2:(Lib.pow10Tab.map fun z=>Value.int .u64 z).toArray=(Pi.map fun z=>Value.int .u64 z).toArray:=by rfl
 unfold Lib.TabIs World.var?;rw[e1,e2];simp only[Option.bind_some,hw]
theorem oK (w:World) (k:Nat) (os:Array Obj):Below w.heap.size w (grow (w.drewN k) os):=
 ⟨rfl,rfl,rfl,by show w.heap.size<=(w.heap++os).size;simp,fun b hb=>by show(w.heap++os)[b]?=_;rw[Array.getElem?_append_left hb]⟩
theorem yc (n:Int) (h0:-9223372036854775808<=n) (h1:n<=9223372036854775807):
  Ag Tryz.prog Ad 132 [] ([.int .i64 n].map AV.lit) [] (S (strOf (Lib.itoa n))):=by
 refine QeP ⟨Tryz.f132,Tryz.func132,by rfl,by rfl⟩ fun w U hg=>?_;refine(Tryz.strconv_Itoa n h0 h1 w (sL hg)).mono ?_;rintro en w' ⟨rfl,k,os,rfl⟩;exact⟨_,rfl,fun U'=> .lit _ rfl,oK w k os,Nat.le_add_right _ _⟩
end Go.Proofs.YtfcgkbinohibcaaGreatDoor
