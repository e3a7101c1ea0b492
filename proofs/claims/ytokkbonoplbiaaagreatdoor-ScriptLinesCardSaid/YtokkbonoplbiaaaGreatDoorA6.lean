/- Lemmas towards scriptLines_card: no conditions of their own beyond those that each one states. -/
import Derived.Test.YtokkbonoplbiaaaGreatDoorA5
import Derived.Shelf.Strings.Builder1
import Derived.Shelf.Strings.Builder2
import Derived.Shelf.Strings.OnBuilder
import Derived.Shelf.Strings.BuilderF
import Derived.Shelf.Strings.BuilderK
import Derived.Shelf.Utf8.RuneCount
import Derived.Shelf.Strings.Builder2Cap
import Derived.Shelf.Strconv.Atoi
import Derived.Shelf.Strconv.Itoa0
import Derived.Shelf.Strconv.Itoa1
import Derived.Shelf.LaysM
import Derived.Shelf.Strconv.Itoa2
import Derived.Shelf.Strconv.Itoa3
import Derived.Shelf.Strconv.AtoiErrFast
import Derived.Shelf.Strconv.ParseIntEmpty
import Derived.Shelf.Strconv.AtoiFail
import Derived.Shelf.Strconv.Clone
import Derived.Shelf.Strconv.SyntaxError
import Derived.Shelf.LaysC
import Derived.Shelf.Strconv.ToError
import Derived.Shelf.Strconv.AtoiErr
import Derived.Shelf.Strconv.Lower
import Derived.Shelf.Strconv.ParseUint10
import Derived.Shelf.Strconv.ParseUint10Empty
import Derived.Shelf.Strconv.ParseUint10Any
import Derived.Shelf.Strconv.ParseInt10
import Derived.Shelf.Strconv.AtoiLong
import Derived.Shelf.Strconv.AtoiInnerAll
import Derived.Shelf.Strconv.RangeError
import Derived.Shelf.Strconv.ToErrorRange
import Derived.Shelf.Strconv.AtoiAll
import Derived.Shelf.Strconv.ParseUintEmpty
import Derived.Shelf.Strconv.ParseUint10b64
import Derived.Shelf.Strconv.ParseUint10b32
import Derived.Shelf.Strconv.ParseUint10b16
import Derived.Shelf.Strconv.ParseUint10b8
import Derived.Shelf.Strconv.ParseUint10At
import Derived.Shelf.Strconv.ParseInt10At64
import Derived.Shelf.Strconv.ParseInt10At32
import Derived.Shelf.Strconv.ParseInt10At16
import Derived.Shelf.Strconv.ParseInt10At8
import Derived.Shelf.Strings.Search1
import Derived.Shelf.Strings.Search2
import Derived.Shelf.Strings.Search3
import Derived.Shelf.Strings.Cut
import Derived.Shelf.Strings.Count
import Derived.Shelf.Strings.Shaped
import Derived.Shelf.Strings.Prefix
import Derived.Shelf.Strings.Split
import Derived.Shelf.Strings.Replace
import Derived.Shelf.Strings.SplitShaped
import Derived.Shelf.Unicode.Decode
import Derived.Shelf.Strings.RuneCount
import Derived.Shelf.Strings.Explode
import Derived.Shelf.Bits.Mul64
import Derived.Shelf.Strings.Repeat
import Derived.Shelf.Unicode.DecodeSlow
import Derived.Shelf.Unicode.DecodeAny
import Derived.Shelf.Strings.BuilderCap
import Derived.Test.YtokkbonoplbiaaaGreatDoorProg
set_option linter.all false
set_option linter.unusedSimpArgs false
set_option linter.unusedVariables false
set_option linter.deprecated false
namespace Go.Proofs
open Go.Shelf
def Tryz.lays156_ren:Go.Shelf.Ren:=⟨fun|156=>36|165=>66|166=>47|169=>50|240=>101|241=>111|276=>124|277=>131|n=>n,fun|31=>36|9=>9|3=>3|4=>4|0=>0|20=>20|72=>100|76=>103|70=>98|37=>43|75=>102|127=>143|164=>151|5=>5|80=>107|n=>n,fun|n=>n⟩
theorem Tryz.lays156:Go.Proofs.Lays.n156 Tryz.prog Tryz.lays156_ren:={
 mixed:=by kernel_rfl
 f156:=Tryz.func36.trans (congrArg some (by kernel_rfl))
 f165:=Tryz.func66.trans (congrArg some (by kernel_rfl))
 f166:=Tryz.func47.trans (congrArg some (by kernel_rfl))
 f169:=Tryz.func50.trans (congrArg some (by kernel_rfl))
 f240:=Tryz.func101.trans (congrArg some (by kernel_rfl))
 f241:=Tryz.func111.trans (congrArg some (by kernel_rfl))
 f276:=Tryz.func124.trans (congrArg some (by kernel_rfl))
 f277:=Tryz.func131.trans (congrArg some (by kernel_rfl))
 t0:=Tryz.underlying0
 a0:=Tryz.isAgg0
 z0:=Tryz.sizeOf0
 v0:=Tryz.zeroValue0
 t3:=Tryz.underlying3
 a3:=Tryz.isAgg3
 z3:=Tryz.sizeOf3
 v3:=Tryz.zeroValue3
 t4:=Tryz.underlying4
 a4:=Tryz.isAgg4
 z4:=Tryz.sizeOf4
 v4:=Tryz.zeroValue4
 t9:=Tryz.underlying9
 a9:=Tryz.isAgg9
 z9:=Tryz.sizeOf9
 v9:=Tryz.zeroValue9
 t20:=Tryz.underlying20
 a20:=Tryz.isAgg20
 z20:=Tryz.sizeOf20
 v20:=Tryz.zeroValue20
 t31:=Tryz.underlying36
 a31:=Tryz.isAgg36
 z31:=Tryz.sizeOf36
 v31:=Tryz.zeroValue36
 t37:=Tryz.underlying43
 a37:=Tryz.isAgg43
 z37:=Tryz.sizeOf43
 v37:=Tryz.zeroValue43
 t70:=Tryz.underlying98
 a70:=Tryz.isAgg98
 z70:=Tryz.sizeOf98
 v70:=Tryz.zeroValue98
 t72:=Tryz.underlying100
 a72:=Tryz.isAgg100
 z72:=Tryz.sizeOf100
 v72:=Tryz.zeroValue100
 t75:=Tryz.underlying102
 a75:=Tryz.isAgg102
 z75:=Tryz.sizeOf102
 v75:=Tryz.zeroValue102
 t76:=Tryz.underlying103
 a76:=Tryz.isAgg103
 z76:=Tryz.sizeOf103
 v76:=Tryz.zeroValue103
 t127:=Tryz.underlying143
 a127:=Tryz.isAgg143
 z127:=Tryz.sizeOf143
 v127:=Tryz.zeroValue143
 t164:=Tryz.underlying151
 a164:=Tryz.isAgg151
 z164:=Tryz.sizeOf151
 v164:=Tryz.zeroValue151}
theorem Tryz.Builder_Extra_156:Builder.Extra Tryz.prog Tryz.lays156_ren:={
 sizeBuilder:=by kernel_rfl
 liesBuilder:=by kernel_rfl
 t5:=Tryz.underlying5
 a5:=Tryz.isAgg5
 z5:=Tryz.sizeOf5
 v5:=Tryz.zeroValue5
 infoByte:=by kernel_rfl
 cellsByte:=by kernel_rfl
 sizeByte:=by kernel_rfl
 neB5:=by decide}
open Go.RowKit in
theorem Tryz.strings_Join (bk o c:Nat) (xs:List ByteArray) (sep:ByteArray) (w:World) (hcells:∀(j:Nat) x,xs[j]?=some x->w.cell? ⟨bk,o+j,none⟩=some (.string x)) (hbk:bk<w.heap.size) (hN:xs.length<=140737488355328) (hcap:xs.length<=c) (hlen:(Lib.join (xs.map (·.data.toList)) sep.data.toList).length<=140737488355328):
  Calls Tryz.prog 36 #[.slice (some ⟨bk,o,none⟩) xs.length c, .string sep] w fun e w'=>e= .returned (.string ⟨(Lib.join (xs.map (·.data.toList)) sep.data.toList).toArray⟩)/\Below w.heap.size w w':=Any.strings_Join Tryz.lays156 Tryz.Builder_Extra_156 bk o c xs sep w hcells hbk hN hcap hlen
def Tryz.laysM171_ren:Go.Shelf.Ren:=⟨fun|171=>126|243=>144|246=>157|283=>163|284=>164|285=>165|286=>166|129=>173|317=>172|318=>174|319=>175|320=>176|337=>180|338=>181|n=>n,fun|3=>3|9=>9|2=>2|4=>4|171=>181|0=>0|53=>173|37=>43|5=>5|173=>184|212=>193|51=>168|20=>20|213=>194|46=>161|232=>207|233=>208|n=>n,fun|17=>6|18=>9|19=>10|n=>n⟩
theorem Tryz.laysM171:Go.Proofs.LaysM.n171 Tryz.prog Tryz.laysM171_ren:={
 mixed:=by kernel_rfl
 f129:=Tryz.func173.trans (congrArg some (by kernel_rfl))
 f171:=Tryz.func126.trans (congrArg some (by kernel_rfl))
 f243:=Tryz.func144.trans (congrArg some (by kernel_rfl))
 f246:=Tryz.func157.trans (congrArg some (by kernel_rfl))
 f283:=Tryz.func163.trans (congrArg some (by kernel_rfl))
 f284:=Tryz.func164.trans (congrArg some (by kernel_rfl))
 f285:=Tryz.func165.trans (congrArg some (by kernel_rfl))
 f286:=Tryz.func166.trans (congrArg some (by kernel_rfl))
 f317:=Tryz.func172.trans (congrArg some (by kernel_rfl))
 f318:=Tryz.func174.trans (congrArg some (by kernel_rfl))
 f319:=Tryz.func175.trans (congrArg some (by kernel_rfl))
 f320:=Tryz.func176.trans (congrArg some (by kernel_rfl))
 f337:=Tryz.func180.trans (congrArg some (by kernel_rfl))
 f338:=Tryz.func181.trans (congrArg some (by kernel_rfl))
 t0:=Tryz.underlying0
 a0:=Tryz.isAgg0
 z0:=Tryz.sizeOf0
 v0:=Tryz.zeroValue0
 t2:=Tryz.underlying2
 a2:=Tryz.isAgg2
 z2:=Tryz.sizeOf2
 v2:=Tryz.zeroValue2
 t3:=Tryz.underlying3
 a3:=Tryz.isAgg3
 z3:=Tryz.sizeOf3
 v3:=Tryz.zeroValue3
 t4:=Tryz.underlying4
 a4:=Tryz.isAgg4
 z4:=Tryz.sizeOf4
 v4:=Tryz.zeroValue4
 t5:=Tryz.underlying5
 a5:=Tryz.isAgg5
 z5:=Tryz.sizeOf5
 v5:=Tryz.zeroValue5
 t9:=Tryz.underlying9
 a9:=Tryz.isAgg9
 z9:=Tryz.sizeOf9
 v9:=Tryz.zeroValue9
 t20:=Tryz.underlying20
 a20:=Tryz.isAgg20
 z20:=Tryz.sizeOf20
 v20:=Tryz.zeroValue20
 t37:=Tryz.underlying43
 a37:=Tryz.isAgg43
 z37:=Tryz.sizeOf43
 v37:=Tryz.zeroValue43
 t46:=Tryz.underlying161
 a46:=Tryz.isAgg161
 z46:=Tryz.sizeOf161
 v46:=Tryz.zeroValue161
 t51:=Tryz.underlying168
 a51:=Tryz.isAgg168
 z51:=Tryz.sizeOf168
 v51:=Tryz.zeroValue168
 t53:=Tryz.underlying173
 a53:=Tryz.isAgg173
 z53:=Tryz.sizeOf173
 v53:=Tryz.zeroValue173
 t171:=Tryz.underlying181
 a171:=Tryz.isAgg181
 z171:=Tryz.sizeOf181
 v171:=Tryz.zeroValue181
 t173:=Tryz.underlying184
 a173:=Tryz.isAgg184
 z173:=Tryz.sizeOf184
 v173:=Tryz.zeroValue184
 t212:=Tryz.underlying193
 a212:=Tryz.isAgg193
 z212:=Tryz.sizeOf193
 v212:=Tryz.zeroValue193
 t213:=Tryz.underlying194
 a213:=Tryz.isAgg194
 z213:=Tryz.sizeOf194
 t232:=Tryz.underlying207
 a232:=Tryz.isAgg207
 z232:=Tryz.sizeOf207
 v232:=Tryz.zeroValue207
 t233:=Tryz.underlying208
 a233:=Tryz.isAgg208
 z233:=Tryz.sizeOf208
 v233:=Tryz.zeroValue208
 g17:=by kernel_rfl
 g18:=by kernel_rfl
 g19:=by kernel_rfl
 i0:=by kernel_rfl
 i2:=by kernel_rfl
 i3:=by kernel_rfl
 i4:=by kernel_rfl
 i5:=by kernel_rfl
 i9:=by kernel_rfl
 i20:=by kernel_rfl
 i37:=by kernel_rfl
 i46:=by kernel_rfl
 i51:=by kernel_rfl
 i53:=by kernel_rfl
 i171:=by kernel_rfl
 i173:=by kernel_rfl
 i212:=by kernel_rfl
 i232:=by kernel_rfl
 i233:=by kernel_rfl
 m17:=by kernel_rfl
 m18:=by kernel_rfl
 m19:=by kernel_rfl}
open Go.RowKit Go.Sort Go.Lib in
theorem Tryz.strconv_Itoa (n:Int) (h0:-9223372036854775808<=n) (h1:n<=9223372036854775807) (w:World) (htab:Lib.TabIs Tryz.prog w "internal/strconv.uint64pow10" .u64 Lib.pow10Tab):
  Calls Tryz.prog 126 #[.int .i64 n] w fun e w'=>e= .returned (.string ⟨(Lib.itoa n).toArray⟩)/\∃k os,w'=grow (w.drewN k) os:=Any.strconv_Itoa Tryz.laysM171 n h0 h1 w htab
def Tryz.laysC172_ren:Go.Shelf.Ren:=⟨fun|172=>151|244=>161|245=>162|247=>167|279=>168|280=>169|281=>170|282=>171|287=>177|316=>178|171=>126|205=>179|321=>182|322=>183|243=>144|246=>157|283=>163|284=>164|285=>165|286=>166|129=>173|317=>172|318=>174|319=>175|320=>176|337=>180|338=>181|n=>n,fun|9=>9|3=>3|75=>102|76=>103|4=>4|5=>5|167=>186|37=>43|0=>0|85=>187|2=>2|168=>189|53=>173|175=>196|46=>161|210=>200|127=>143|145=>206|143=>204|21=>21|171=>181|173=>184|212=>193|51=>168|20=>20|213=>194|232=>207|233=>208|80=>107|n=>n,fun|15=>7|16=>8|17=>6|18=>9|19=>10|n=>n⟩
theorem Tryz.laysC172:Go.Proofs.LaysC.n172 Tryz.prog Tryz.laysC172_ren:={
 mixed:=by kernel_rfl
 f129:=Tryz.func173.trans (congrArg some (by kernel_rfl))
 f171:=Tryz.func126.trans (congrArg some (by kernel_rfl))
 f172:=Tryz.func151.trans (congrArg some (by kernel_rfl))
 f205:=Tryz.func179.trans (congrArg some (by kernel_rfl))
 f243:=Tryz.func144.trans (congrArg some (by kernel_rfl))
 f244:=Tryz.func161.trans (congrArg some (by kernel_rfl))
 f245:=Tryz.func162.trans (congrArg some (by kernel_rfl))
 f246:=Tryz.func157.trans (congrArg some (by kernel_rfl))
 f247:=Tryz.func167.trans (congrArg some (by kernel_rfl))
 f279:=Tryz.func168.trans (congrArg some (by kernel_rfl))
 f280:=Tryz.func169.trans (congrArg some (by kernel_rfl))
 f281:=Tryz.func170.trans (congrArg some (by kernel_rfl))
 f282:=Tryz.func171.trans (congrArg some (by kernel_rfl))
 f283:=Tryz.func163.trans (congrArg some (by kernel_rfl))
 f284:=Tryz.func164.trans (congrArg some (by kernel_rfl))
 f285:=Tryz.func165.trans (congrArg some (by kernel_rfl))
 f286:=Tryz.func166.trans (congrArg some (by kernel_rfl))
 f287:=Tryz.func177.trans (congrArg some (by kernel_rfl))
 f316:=Tryz.func178.trans (congrArg some (by kernel_rfl))
 f317:=Tryz.func172.trans (congrArg some (by kernel_rfl))
 f318:=Tryz.func174.trans (congrArg some (by kernel_rfl))
 f319:=Tryz.func175.trans (congrArg some (by kernel_rfl))
 f320:=Tryz.func176.trans (congrArg some (by kernel_rfl))
 f321:=Tryz.func182.trans (congrArg some (by kernel_rfl))
 f322:=Tryz.func183.trans (congrArg some (by kernel_rfl))
 f337:=Tryz.func180.trans (congrArg some (by kernel_rfl))
 f338:=Tryz.func181.trans (congrArg some (by kernel_rfl))
 t0:=Tryz.underlying0
 a0:=Tryz.isAgg0
 z0:=Tryz.sizeOf0
 v0:=Tryz.zeroValue0
 t2:=Tryz.underlying2
 a2:=Tryz.isAgg2
 z2:=Tryz.sizeOf2
 v2:=Tryz.zeroValue2
 t3:=Tryz.underlying3
 a3:=Tryz.isAgg3
 z3:=Tryz.sizeOf3
 v3:=Tryz.zeroValue3
 t4:=Tryz.underlying4
 a4:=Tryz.isAgg4
 z4:=Tryz.sizeOf4
 v4:=Tryz.zeroValue4
 t5:=Tryz.underlying5
 a5:=Tryz.isAgg5
 z5:=Tryz.sizeOf5
 v5:=Tryz.zeroValue5
 t9:=Tryz.underlying9
 a9:=Tryz.isAgg9
 z9:=Tryz.sizeOf9
 v9:=Tryz.zeroValue9
 t20:=Tryz.underlying20
 a20:=Tryz.isAgg20
 z20:=Tryz.sizeOf20
 v20:=Tryz.zeroValue20
 t21:=Tryz.underlying21
 a21:=Tryz.isAgg21
 z21:=Tryz.sizeOf21
 v21:=Tryz.zeroValue21
 t37:=Tryz.underlying43
 a37:=Tryz.isAgg43
 z37:=Tryz.sizeOf43
 v37:=Tryz.zeroValue43
 t46:=Tryz.underlying161
 a46:=Tryz.isAgg161
 z46:=Tryz.sizeOf161
 v46:=Tryz.zeroValue161
 t51:=Tryz.underlying168
 a51:=Tryz.isAgg168
 z51:=Tryz.sizeOf168
 v51:=Tryz.zeroValue168
 t53:=Tryz.underlying173
 a53:=Tryz.isAgg173
 z53:=Tryz.sizeOf173
 v53:=Tryz.zeroValue173
 t75:=Tryz.underlying102
 a75:=Tryz.isAgg102
 z75:=Tryz.sizeOf102
 v75:=Tryz.zeroValue102
 t76:=Tryz.underlying103
 a76:=Tryz.isAgg103
 z76:=Tryz.sizeOf103
 v76:=Tryz.zeroValue103
 t85:=Tryz.underlying187
 a85:=Tryz.isAgg187
 z85:=Tryz.sizeOf187
 v85:=Tryz.zeroValue187
 t127:=Tryz.underlying143
 a127:=Tryz.isAgg143
 z127:=Tryz.sizeOf143
 v127:=Tryz.zeroValue143
 t143:=Tryz.underlying204
 a143:=Tryz.isAgg204
 z143:=Tryz.sizeOf204
 v143:=Tryz.zeroValue204
 t145:=Tryz.underlying206
 a145:=Tryz.isAgg206
 z145:=Tryz.sizeOf206
 v145:=Tryz.zeroValue206
 t167:=Tryz.underlying186
 a167:=Tryz.isAgg186
 z167:=Tryz.sizeOf186
 v167:=Tryz.zeroValue186
 t168:=Tryz.underlying189
 a168:=Tryz.isAgg189
 z168:=Tryz.sizeOf189
 v168:=Tryz.zeroValue189
 t171:=Tryz.underlying181
 a171:=Tryz.isAgg181
 z171:=Tryz.sizeOf181
 v171:=Tryz.zeroValue181
 t173:=Tryz.underlying184
 a173:=Tryz.isAgg184
 z173:=Tryz.sizeOf184
 v173:=Tryz.zeroValue184
 t175:=Tryz.underlying196
 a175:=Tryz.isAgg196
 z175:=Tryz.sizeOf196
 v175:=Tryz.zeroValue196
 t210:=Tryz.underlying200
 a210:=Tryz.isAgg200
 z210:=Tryz.sizeOf200
 v210:=Tryz.zeroValue200
 t212:=Tryz.underlying193
 a212:=Tryz.isAgg193
 z212:=Tryz.sizeOf193
 v212:=Tryz.zeroValue193
 t213:=Tryz.underlying194
 a213:=Tryz.isAgg194
 z213:=Tryz.sizeOf194
 t232:=Tryz.underlying207
 a232:=Tryz.isAgg207
 z232:=Tryz.sizeOf207
 v232:=Tryz.zeroValue207
 t233:=Tryz.underlying208
 a233:=Tryz.isAgg208
 z233:=Tryz.sizeOf208
 v233:=Tryz.zeroValue208
 g15:=by kernel_rfl
 g16:=by kernel_rfl
 g17:=by kernel_rfl
 g18:=by kernel_rfl
 g19:=by kernel_rfl
 t80:=Tryz.underlying107
 a80:=Tryz.isAgg107
 z80:=Tryz.sizeOf107
 v80:=Tryz.zeroValue107
 i0:=by kernel_rfl
 i2:=by kernel_rfl
 i3:=by kernel_rfl
 i4:=by kernel_rfl
 i5:=by kernel_rfl
 i9:=by kernel_rfl
 i20:=by kernel_rfl
 i21:=by kernel_rfl
 i37:=by kernel_rfl
 i46:=by kernel_rfl
 i51:=by kernel_rfl
 i53:=by kernel_rfl
 i75:=by kernel_rfl
 i76:=by kernel_rfl
 i80:=by kernel_rfl
 i85:=by kernel_rfl
 i127:=by kernel_rfl
 i143:=by kernel_rfl
 i145:=by kernel_rfl
 i167:=by kernel_rfl
 i168:=by kernel_rfl
 i171:=by kernel_rfl
 i173:=by kernel_rfl
 i175:=by kernel_rfl
 i210:=by kernel_rfl
 i212:=by kernel_rfl
 i232:=by kernel_rfl
 i233:=by kernel_rfl
 m15:=by kernel_rfl
 m16:=by kernel_rfl
 m17:=by kernel_rfl
 m18:=by kernel_rfl
 m19:=by kernel_rfl
 c0:=by kernel_rfl
 c2:=by kernel_rfl
 c3:=by kernel_rfl
 c4:=by kernel_rfl
 c5:=by kernel_rfl
 c9:=by kernel_rfl
 c20:=by kernel_rfl
 c21:=by kernel_rfl
 c37:=by kernel_rfl
 c46:=by kernel_rfl
 c51:=by kernel_rfl
 c53:=by kernel_rfl
 c75:=by kernel_rfl
 c76:=by kernel_rfl
 c80:=by kernel_rfl
 c85:=by kernel_rfl
 c127:=by kernel_rfl
 c143:=by kernel_rfl
 c145:=by kernel_rfl
 c167:=by kernel_rfl
 c168:=by kernel_rfl
 c171:=by kernel_rfl
 c173:=by kernel_rfl
 c175:=by kernel_rfl
 c210:=by kernel_rfl
 c212:=by kernel_rfl
 c213:=by kernel_rfl
 c232:=by kernel_rfl
 c233:=by kernel_rfl}
open Go.RowKit in
theorem Tryz.strconv_Atoi_ok (s:ByteArray) (hmax:s.size<=9223372036854775806) (v:Int) (h:Lib.atoiAll s.data.toList= .ok v) (w:World):
  Calls Tryz.prog 151 #[.string s] w fun e w'=>e= .returned (.tuple #[.int .i64 v, .nilIface])/\(w'=w\/∃t,w'=Lib.bytesWorld w 5 t):=Any.strconv_Atoi_ok Tryz.laysC172 s hmax v h w
def IsSyn (s:List UInt8):Prop:=(∀v,Lib.atoiAll s≠ .ok v)/\Lib.atoiAll s≠ .range
open Go.RowKit in
theorem Tryz.strconv_Atoi_syntax (s:ByteArray) (hlim:s.size<=281474976710656) (h:IsSyn s.data.toList) (ev:Value) (w:World) (hv:w.cell? ⟨7,0,none⟩=some ev) (hev:ev= .nilIface\/∃te pe,ev= .iface te pe):
  Calls Tryz.prog 151 #[.string s] w fun e w'=>∃N,e= .returned (.tuple #[.int .i64 (0), .iface 189 (.pointer (some ⟨N,0,none⟩))])/\w.heap.size<=N/\w'.heap[N]?=some (.cells #[.string ⟨#[65,116,111,105]⟩, .string s,ev] 200 (0,0))/\Below w.heap.size w w':=
 Any.strconv_Atoi_syntax Tryz.laysC172 s hlim (by
  obtain⟨h1,h2⟩:=h
  cases hh:Lib.atoiAll s.data.toList with
  |ok v=>exact absurd hh (h1 v)
  |range=>exact absurd hh h2
  |_=>rfl) ev w hv hev
open Go.RowKit in
theorem Tryz.strconv_Atoi_range (s:ByteArray) (hlim:s.size<=281474976710656) (h:Lib.atoiAll s.data.toList= .range) (ev:Value) (w:World) (hv:w.cell? ⟨8,0,none⟩=some ev) (hev:ev= .nilIface\/∃te pe,ev= .iface te pe):
  Calls Tryz.prog 151 #[.string s] w fun e w'=>∃N,e= .returned (.tuple #[.int .i64 (Lib.atoiSat s.data.toList), .iface 189 (.pointer (some ⟨N,0,none⟩))])/\w.heap.size<=N/\w'.heap[N]?=some (.cells #[.string ⟨#[65,116,111,105]⟩, .string s,ev] 200 (0,0))/\Below w.heap.size w w':=Any.strconv_Atoi_range Tryz.laysC172 s hlim h ev w hv hev
def Tryz.lays145_ren:Go.Shelf.Ren:=⟨fun|145=>52|220=>102|219=>125|217=>140|225=>141|224=>142|267=>143|266=>155|314=>156|n=>n,fun|9=>9|4=>4|59=>108|3=>3|5=>5|46=>161|146=>169|51=>168|n=>n,fun|1=>3|n=>n⟩
theorem Tryz.lays145:Go.Proofs.Lays.n145 Tryz.prog Tryz.lays145_ren:={
 mixed:=by kernel_rfl
 f145:=Tryz.func52.trans (congrArg some (by kernel_rfl))
 f217:=Tryz.func140.trans (congrArg some (by kernel_rfl))
 f219:=Tryz.func125.trans (congrArg some (by kernel_rfl))
 f220:=Tryz.func102.trans (congrArg some (by kernel_rfl))
 f224:=Tryz.func142.trans (congrArg some (by kernel_rfl))
 f225:=Tryz.func141.trans (congrArg some (by kernel_rfl))
 f266:=Tryz.func155.trans (congrArg some (by kernel_rfl))
 f267:=Tryz.func143.trans (congrArg some (by kernel_rfl))
 f314:=Tryz.func156.trans (congrArg some (by kernel_rfl))
 t3:=Tryz.underlying3
 a3:=Tryz.isAgg3
 z3:=Tryz.sizeOf3
 v3:=Tryz.zeroValue3
 t4:=Tryz.underlying4
 a4:=Tryz.isAgg4
 z4:=Tryz.sizeOf4
 v4:=Tryz.zeroValue4
 t5:=Tryz.underlying5
 a5:=Tryz.isAgg5
 z5:=Tryz.sizeOf5
 v5:=Tryz.zeroValue5
 t9:=Tryz.underlying9
 a9:=Tryz.isAgg9
 z9:=Tryz.sizeOf9
 v9:=Tryz.zeroValue9
 t46:=Tryz.underlying161
 a46:=Tryz.isAgg161
 z46:=Tryz.sizeOf161
 v46:=Tryz.zeroValue161
 t51:=Tryz.underlying168
 a51:=Tryz.isAgg168
 z51:=Tryz.sizeOf168
 v51:=Tryz.zeroValue168
 t59:=Tryz.underlying108
 a59:=Tryz.isAgg108
 z59:=Tryz.sizeOf108
 v59:=Tryz.zeroValue108
 t146:=Tryz.underlying169
 a146:=Tryz.isAgg169
 z146:=Tryz.sizeOf169
 v146:=Tryz.zeroValue169
 g1:=by kernel_rfl}
open Go.RowKit Go.Lib in
theorem Tryz.strings_Cut (s sep:ByteArray) (m:Int) (w:World) (hs:s.size<4294967281) (hm:w.cell? ⟨3,0,none⟩=some (.int .i64 m)):
  Calls Tryz.prog 52 #[.string s, .string sep] w fun e w'=>e= .returned (.tuple #[.string ⟨(Lib.cut s.data.toList sep.data.toList).1.toArray⟩, .string ⟨(Lib.cut s.data.toList sep.data.toList).2.1.toArray⟩, .bool (Lib.cut s.data.toList sep.data.toList).2.2])/\∃n,w'=w.drewN n:=Any.strings_Cut Tryz.lays145 s sep m w hs hm
def Tryz.lays146_ren:Go.Shelf.Ren:=⟨fun|146=>43|221=>76|268=>114|138=>115|143=>116|195=>134|197=>135|218=>136|219=>125|260=>150|217=>140|225=>141|224=>142|267=>143|266=>155|314=>156|n=>n,fun|9=>9|31=>36|3=>3|4=>4|0=>0|105=>158|21=>21|5=>5|46=>161|119=>176|139=>179|138=>178|146=>169|51=>168|n=>n,fun|1=>3|3=>4|4=>5|n=>n⟩
theorem Tryz.lays146:Go.Proofs.Lays.n146 Tryz.prog Tryz.lays146_ren:={
 mixed:=by kernel_rfl
 f138:=Tryz.func115.trans (congrArg some (by kernel_rfl))
 f143:=Tryz.func116.trans (congrArg some (by kernel_rfl))
 f146:=Tryz.func43.trans (congrArg some (by kernel_rfl))
 f195:=Tryz.func134.trans (congrArg some (by kernel_rfl))
 f197:=Tryz.func135.trans (congrArg some (by kernel_rfl))
 f217:=Tryz.func140.trans (congrArg some (by kernel_rfl))
 f218:=Tryz.func136.trans (congrArg some (by kernel_rfl))
 f219:=Tryz.func125.trans (congrArg some (by kernel_rfl))
 f221:=Tryz.func76.trans (congrArg some (by kernel_rfl))
 f224:=Tryz.func142.trans (congrArg some (by kernel_rfl))
 f225:=Tryz.func141.trans (congrArg some (by kernel_rfl))
 f260:=Tryz.func150.trans (congrArg some (by kernel_rfl))
 f266:=Tryz.func155.trans (congrArg some (by kernel_rfl))
 f267:=Tryz.func143.trans (congrArg some (by kernel_rfl))
 f268:=Tryz.func114.trans (congrArg some (by kernel_rfl))
 f314:=Tryz.func156.trans (congrArg some (by kernel_rfl))
 t0:=Tryz.underlying0
 a0:=Tryz.isAgg0
 z0:=Tryz.sizeOf0
 v0:=Tryz.zeroValue0
 t3:=Tryz.underlying3
 a3:=Tryz.isAgg3
 z3:=Tryz.sizeOf3
 v3:=Tryz.zeroValue3
 t4:=Tryz.underlying4
 a4:=Tryz.isAgg4
 z4:=Tryz.sizeOf4
 v4:=Tryz.zeroValue4
 t5:=Tryz.underlying5
 a5:=Tryz.isAgg5
 z5:=Tryz.sizeOf5
 v5:=Tryz.zeroValue5
 t9:=Tryz.underlying9
 a9:=Tryz.isAgg9
 z9:=Tryz.sizeOf9
 v9:=Tryz.zeroValue9
 t21:=Tryz.underlying21
 a21:=Tryz.isAgg21
 z21:=Tryz.sizeOf21
 v21:=Tryz.zeroValue21
 t31:=Tryz.underlying36
 a31:=Tryz.isAgg36
 z31:=Tryz.sizeOf36
 v31:=Tryz.zeroValue36
 t46:=Tryz.underlying161
 a46:=Tryz.isAgg161
 z46:=Tryz.sizeOf161
 v46:=Tryz.zeroValue161
 t51:=Tryz.underlying168
 a51:=Tryz.isAgg168
 z51:=Tryz.sizeOf168
 v51:=Tryz.zeroValue168
 t105:=Tryz.underlying158
 a105:=Tryz.isAgg158
 z105:=Tryz.sizeOf158
 v105:=Tryz.zeroValue158
 t119:=Tryz.underlying176
 a119:=Tryz.isAgg176
 z119:=Tryz.sizeOf176
 t138:=Tryz.underlying178
 a138:=Tryz.isAgg178
 z138:=Tryz.sizeOf178
 v138:=Tryz.zeroValue178
 t139:=Tryz.underlying179
 a139:=Tryz.isAgg179
 z139:=Tryz.sizeOf179
 v139:=Tryz.zeroValue179
 t146:=Tryz.underlying169
 a146:=Tryz.isAgg169
 z146:=Tryz.sizeOf169
 v146:=Tryz.zeroValue169
 g1:=by kernel_rfl
 g3:=by kernel_rfl
 g4:=by kernel_rfl}
open Go.RowKit Go.Lib in
theorem Tryz.strings_Split (s sep:ByteArray) (m:Int) (w:World) (hs:s.size<4294967281) (hm:w.cell? ⟨3,0,none⟩=some (.int .i64 m)) (h1:1<=sep.size):
  Calls Tryz.prog 43 #[.string s, .string sep] w fun e w'=>
   e= .returned (.slice (some ⟨w.heap.size,0,none⟩) (Lib.countB s sep+1) (Lib.countB s sep+1))/\w'=w.alloc (.cells ((Lib.splitB sep 0 (Lib.countB s sep) s).map Value.string).toArray 9):=Any.strings_Split Tryz.lays146 (by kernel_rfl) s sep m w hs hm h1
def Tryz.lays155_ren:Go.Shelf.Ren:=⟨fun|155=>107|154=>127|138=>115|165=>66|143=>116|166=>47|197=>135|169=>50|195=>134|218=>136|240=>101|241=>111|219=>125|260=>150|276=>124|277=>131|217=>140|225=>141|224=>142|267=>143|266=>155|314=>156|n=>n,fun|9=>9|3=>3|4=>4|72=>100|0=>0|76=>103|105=>158|21=>21|5=>5|70=>98|20=>20|37=>43|75=>102|127=>143|164=>151|46=>161|119=>176|139=>179|138=>178|146=>169|51=>168|80=>107|n=>n,fun|1=>3|3=>4|4=>5|n=>n⟩
theorem Tryz.lays155:Go.Proofs.Lays.n155 Tryz.prog Tryz.lays155_ren:={
 mixed:=by kernel_rfl
 f138:=Tryz.func115.trans (congrArg some (by kernel_rfl))
 f143:=Tryz.func116.trans (congrArg some (by kernel_rfl))
 f154:=Tryz.func127.trans (congrArg some (by kernel_rfl))
 f155:=Tryz.func107.trans (congrArg some (by kernel_rfl))
 f165:=Tryz.func66.trans (congrArg some (by kernel_rfl))
 f166:=Tryz.func47.trans (congrArg some (by kernel_rfl))
 f169:=Tryz.func50.trans (congrArg some (by kernel_rfl))
 f195:=Tryz.func134.trans (congrArg some (by kernel_rfl))
 f197:=Tryz.func135.trans (congrArg some (by kernel_rfl))
 f217:=Tryz.func140.trans (congrArg some (by kernel_rfl))
 f218:=Tryz.func136.trans (congrArg some (by kernel_rfl))
 f219:=Tryz.func125.trans (congrArg some (by kernel_rfl))
 f224:=Tryz.func142.trans (congrArg some (by kernel_rfl))
 f225:=Tryz.func141.trans (congrArg some (by kernel_rfl))
 f240:=Tryz.func101.trans (congrArg some (by kernel_rfl))
 f241:=Tryz.func111.trans (congrArg some (by kernel_rfl))
 f260:=Tryz.func150.trans (congrArg some (by kernel_rfl))
 f266:=Tryz.func155.trans (congrArg some (by kernel_rfl))
 f267:=Tryz.func143.trans (congrArg some (by kernel_rfl))
 f276:=Tryz.func124.trans (congrArg some (by kernel_rfl))
 f277:=Tryz.func131.trans (congrArg some (by kernel_rfl))
 f314:=Tryz.func156.trans (congrArg some (by kernel_rfl))
 t0:=Tryz.underlying0
 a0:=Tryz.isAgg0
 z0:=Tryz.sizeOf0
 v0:=Tryz.zeroValue0
 t3:=Tryz.underlying3
 a3:=Tryz.isAgg3
 z3:=Tryz.sizeOf3
 v3:=Tryz.zeroValue3
 t4:=Tryz.underlying4
 a4:=Tryz.isAgg4
 z4:=Tryz.sizeOf4
 v4:=Tryz.zeroValue4
 t5:=Tryz.underlying5
 a5:=Tryz.isAgg5
 z5:=Tryz.sizeOf5
 v5:=Tryz.zeroValue5
 t9:=Tryz.underlying9
 a9:=Tryz.isAgg9
 z9:=Tryz.sizeOf9
 v9:=Tryz.zeroValue9
 t20:=Tryz.underlying20
 a20:=Tryz.isAgg20
 z20:=Tryz.sizeOf20
 v20:=Tryz.zeroValue20
 t21:=Tryz.underlying21
 a21:=Tryz.isAgg21
 z21:=Tryz.sizeOf21
 v21:=Tryz.zeroValue21
 t37:=Tryz.underlying43
 a37:=Tryz.isAgg43
 z37:=Tryz.sizeOf43
 v37:=Tryz.zeroValue43
 t46:=Tryz.underlying161
 a46:=Tryz.isAgg161
 z46:=Tryz.sizeOf161
 v46:=Tryz.zeroValue161
 t51:=Tryz.underlying168
 a51:=Tryz.isAgg168
 z51:=Tryz.sizeOf168
 v51:=Tryz.zeroValue168
 t70:=Tryz.underlying98
 a70:=Tryz.isAgg98
 z70:=Tryz.sizeOf98
 v70:=Tryz.zeroValue98
 t72:=Tryz.underlying100
 a72:=Tryz.isAgg100
 z72:=Tryz.sizeOf100
 v72:=Tryz.zeroValue100
 t75:=Tryz.underlying102
 a75:=Tryz.isAgg102
 z75:=Tryz.sizeOf102
 v75:=Tryz.zeroValue102
 t76:=Tryz.underlying103
 a76:=Tryz.isAgg103
 z76:=Tryz.sizeOf103
 v76:=Tryz.zeroValue103
 t105:=Tryz.underlying158
 a105:=Tryz.isAgg158
 z105:=Tryz.sizeOf158
 v105:=Tryz.zeroValue158
 t119:=Tryz.underlying176
 a119:=Tryz.isAgg176
 z119:=Tryz.sizeOf176
 t127:=Tryz.underlying143
 a127:=Tryz.isAgg143
 z127:=Tryz.sizeOf143
 v127:=Tryz.zeroValue143
 t138:=Tryz.underlying178
 a138:=Tryz.isAgg178
 z138:=Tryz.sizeOf178
 v138:=Tryz.zeroValue178
 t139:=Tryz.underlying179
 a139:=Tryz.isAgg179
 z139:=Tryz.sizeOf179
 v139:=Tryz.zeroValue179
 t146:=Tryz.underlying169
 a146:=Tryz.isAgg169
 z146:=Tryz.sizeOf169
 v146:=Tryz.zeroValue169
 t164:=Tryz.underlying151
 a164:=Tryz.isAgg151
 z164:=Tryz.sizeOf151
 v164:=Tryz.zeroValue151
 g1:=by kernel_rfl
 g3:=by kernel_rfl
 g4:=by kernel_rfl}
theorem Tryz.Builder_Extra_155:Builder.Extra Tryz.prog Tryz.lays155_ren:={
 sizeBuilder:=by kernel_rfl
 liesBuilder:=by kernel_rfl
 t5:=Tryz.underlying5
 a5:=Tryz.isAgg5
 z5:=Tryz.sizeOf5
 v5:=Tryz.zeroValue5
 infoByte:=by kernel_rfl
 cellsByte:=by kernel_rfl
 sizeByte:=by kernel_rfl
 neB5:=by decide}
open Go.RowKit Go.Lib in
theorem Tryz.strings_ReplaceAll (s old new:ByteArray) (m:Int) (w:World) (hs:s.size<4294967281) (hm:w.cell? ⟨3,0,none⟩=some (.int .i64 m)) (h1:1<=old.size) (hlen:s.size+Lib.countB s old*new.size<=140737488355328):
  Calls Tryz.prog 107 #[.string s, .string old, .string new] w fun e w'=>
   e= .returned (.string ⟨(Lib.replaceAll s.data.toList old.data.toList new.data.toList).toArray⟩)/\Below w.heap.size w w':=Any.strings_ReplaceAll Tryz.lays155 Tryz.Builder_Extra_155 s old new m w hs hm h1 hlen
def Tryz.lays105_ren:Go.Shelf.Ren:=⟨fun|105=>130|212=>148|99=>149|165=>66|166=>47|170=>49|169=>50|263=>158|264=>159|206=>160|240=>101|241=>111|276=>124|277=>131|n=>n,fun|9=>9|3=>3|4=>4|20=>20|0=>0|46=>161|109=>163|5=>5|72=>100|76=>103|51=>168|146=>169|53=>173|148=>174|70=>98|37=>43|75=>102|127=>143|164=>151|80=>107|n=>n,fun|n=>n⟩
theorem Tryz.lays105:Go.Proofs.Lays.n105 Tryz.prog Tryz.lays105_ren:={
 mixed:=by kernel_rfl
 f99:=Tryz.func149.trans (congrArg some (by kernel_rfl))
 f105:=Tryz.func130.trans (congrArg some (by kernel_rfl))
 f165:=Tryz.func66.trans (congrArg some (by kernel_rfl))
 f166:=Tryz.func47.trans (congrArg some (by kernel_rfl))
 f169:=Tryz.func50.trans (congrArg some (by kernel_rfl))
 f170:=Tryz.func49.trans (congrArg some (by kernel_rfl))
 f206:=Tryz.func160.trans (congrArg some (by kernel_rfl))
 f212:=Tryz.func148.trans (congrArg some (by kernel_rfl))
 f240:=Tryz.func101.trans (congrArg some (by kernel_rfl))
 f241:=Tryz.func111.trans (congrArg some (by kernel_rfl))
 f263:=Tryz.func158.trans (congrArg some (by kernel_rfl))
 f264:=Tryz.func159.trans (congrArg some (by kernel_rfl))
 f276:=Tryz.func124.trans (congrArg some (by kernel_rfl))
 f277:=Tryz.func131.trans (congrArg some (by kernel_rfl))
 t0:=Tryz.underlying0
 a0:=Tryz.isAgg0
 z0:=Tryz.sizeOf0
 v0:=Tryz.zeroValue0
 t3:=Tryz.underlying3
 a3:=Tryz.isAgg3
 z3:=Tryz.sizeOf3
 v3:=Tryz.zeroValue3
 t4:=Tryz.underlying4
 a4:=Tryz.isAgg4
 z4:=Tryz.sizeOf4
 v4:=Tryz.zeroValue4
 t5:=Tryz.underlying5
 a5:=Tryz.isAgg5
 z5:=Tryz.sizeOf5
 v5:=Tryz.zeroValue5
 t9:=Tryz.underlying9
 a9:=Tryz.isAgg9
 z9:=Tryz.sizeOf9
 v9:=Tryz.zeroValue9
 t20:=Tryz.underlying20
 a20:=Tryz.isAgg20
 z20:=Tryz.sizeOf20
 v20:=Tryz.zeroValue20
 t37:=Tryz.underlying43
 a37:=Tryz.isAgg43
 z37:=Tryz.sizeOf43
 v37:=Tryz.zeroValue43
 t46:=Tryz.underlying161
 a46:=Tryz.isAgg161
 z46:=Tryz.sizeOf161
 v46:=Tryz.zeroValue161
 t51:=Tryz.underlying168
 a51:=Tryz.isAgg168
 z51:=Tryz.sizeOf168
 v51:=Tryz.zeroValue168
 t53:=Tryz.underlying173
 a53:=Tryz.isAgg173
 z53:=Tryz.sizeOf173
 v53:=Tryz.zeroValue173
 t70:=Tryz.underlying98
 a70:=Tryz.isAgg98
 z70:=Tryz.sizeOf98
 v70:=Tryz.zeroValue98
 t72:=Tryz.underlying100
 a72:=Tryz.isAgg100
 z72:=Tryz.sizeOf100
 v72:=Tryz.zeroValue100
 t75:=Tryz.underlying102
 a75:=Tryz.isAgg102
 z75:=Tryz.sizeOf102
 v75:=Tryz.zeroValue102
 t76:=Tryz.underlying103
 a76:=Tryz.isAgg103
 z76:=Tryz.sizeOf103
 v76:=Tryz.zeroValue103
 t109:=Tryz.underlying163
 a109:=Tryz.isAgg163
 z109:=Tryz.sizeOf163
 v109:=Tryz.zeroValue163
 t127:=Tryz.underlying143
 a127:=Tryz.isAgg143
 z127:=Tryz.sizeOf143
 v127:=Tryz.zeroValue143
 t146:=Tryz.underlying169
 a146:=Tryz.isAgg169
 z146:=Tryz.sizeOf169
 v146:=Tryz.zeroValue169
 t148:=Tryz.underlying174
 a148:=Tryz.isAgg174
 z148:=Tryz.sizeOf174
 v148:=Tryz.zeroValue174
 t164:=Tryz.underlying151
 a164:=Tryz.isAgg151
 z164:=Tryz.sizeOf151
 v164:=Tryz.zeroValue151}
theorem Tryz.Builder_Extra_105:Builder.Extra Tryz.prog Tryz.lays105_ren:={
 sizeBuilder:=by kernel_rfl
 liesBuilder:=by kernel_rfl
 t5:=Tryz.underlying5
 a5:=Tryz.isAgg5
 z5:=Tryz.sizeOf5
 v5:=Tryz.zeroValue5
 infoByte:=by kernel_rfl
 cellsByte:=by kernel_rfl
 sizeByte:=by kernel_rfl
 neB5:=by decide}
open Go.RowKit Go.Lib in
theorem Tryz.strings_Repeat (s:ByteArray) (c:Nat) (w:World) (hc:c<=9223372036854775807) (hlen:s.size*c<=140737488355328):
  Calls Tryz.prog 130 #[.string s, .int .i64 c] w fun e w'=>e= .returned (.string ⟨(Lib.repeatL s.data.toList c).toArray⟩)/\Below w.heap.size w w':=Any.strings_Repeat Tryz.lays105 Tryz.Builder_Extra_105 s c w hc hlen
end Go.Proofs
namespace Go.Proofs.YtokkbonoplbiaaaGreatDoor
open Go Go.Sym Go.Great Go.RowKit Go.Proofs Go.Sort
theorem gok_max {w:World} {U:Nat->Prop} (h:GOk tab w U):∃m,w.cell? ⟨3,0,none⟩=some (.int .i64 m):=by
 obtain⟨b,off,f,he,_,_,hc,_,hv⟩:=(h.cell 3 _ rfl).ptI_inv
 cases he
 have h0:=hv 0 (by simp)
 have h1:=hc 0 (by simp)
 simp only[List.getElem_cons_zero] at h0
 generalize f 0=x at h0 h1
 cases h0 with
 |anyI k n=>exact⟨n,h1⟩
theorem gok_if {w:World} {U:Nat->Prop} {g:Nat} (h:GOk tab w U) (hg:glu tab.gl g=some [.ifn]):∃ev,w.cell? ⟨g,0,none⟩=some ev/\(ev= .nilIface\/∃te pe,ev= .iface te pe):=by
 obtain⟨b,off,f,he,_,_,hc,_,hv⟩:=(h.cell g _ hg).ptI_inv
 cases he
 have h0:=hv 0 (by simp)
 have h1:=hc 0 (by simp)
 simp only[List.getElem_cons_zero] at h0
 generalize f 0=x at h0 h1
 cases h0 with
 |ifn t p=>exact⟨_,h1, .inr ⟨t,p,rfl⟩⟩
theorem below_drewN (w:World) (n:Nat):Below w.heap.size w (w.drewN n):=⟨rfl,rfl,rfl,Nat.le_refl _,fun _ _=>rfl⟩
theorem cut_sat (s sep:List UInt8) (hs:s.length<4294967281):
  SatG Tryz.prog tab 52 [] ([.string (strOf s), .string (strOf sep)].map AV.lit) [] (.tup [S (strOf (Lib.cut s sep).1),S (strOf (Lib.cut s sep).2.1),B (Lib.cut s sep).2.2]):=by
 refine sat_plain ⟨Tryz.f52,Tryz.func52,by rfl,by rfl⟩ fun w U hg=>?_
 obtain⟨m,hm⟩:=gok_max hg
 refine(Tryz.strings_Cut (strOf s) (strOf sep) m w (by rw[str_size];exact hs) hm).mono ?_
 rintro en w' ⟨rfl,n,rfl⟩
 refine⟨_,rfl,fun U'=>?_,below_drewN w n⟩
 simp only[str_list]
 refine .tup _ _ rfl fun i hi=>?_
 rcases(by simp at hi;omega:i=0\/i=1\/i=2) with rfl|rfl|rfl<;>exact .lit _ rfl
theorem split_sat (s sep:ByteArray) (hs:s.size<4294967281) (h1:1<=sep.size):
  SatG Tryz.prog tab 43 [] ([.string s, .string sep].map AV.lit) [(100,some (1, .own 9 1 (((Lib.splitB sep 0 (Lib.countB s sep) s).map Value.string).map AV.lit)))]
   (.slO 100 1 0 ((Lib.splitB sep 0 (Lib.countB s sep) s).map Value.string).length):=by
 have hle:=Lib.countB_le sep h1 s.size s (Nat.le_refl _)
 have hlen:=Lib.splitB_all sep h1 0 _ s rfl
 refine sat_own ⟨Tryz.f43,Tryz.func43,by rfl,by rfl⟩ (fun x hx=>by obtain⟨y,_,rfl⟩:=List.mem_map.1 hx;rfl) fun w U hg=>?_
 obtain⟨m,hm⟩:=gok_max hg
 refine(Tryz.strings_Split s sep m w hs hm h1).mono ?_
 rintro en w' ⟨rfl,rfl⟩
 refine⟨w.heap.size,_,_,by rw[List.length_map,hlen],Nat.le_refl _,heap_new w _,?_,?_,?_,?_,Below.alloc (Below.refl _ _) (Nat.le_refl _) _⟩
 ·simp[hlen]
 ·unfold maxLen;omega
 ·simp[hlen]
 ·intro j hj
  simp
theorem below_grow (w:World) (k:Nat) (os:Array Obj):Below w.heap.size w (grow (w.drewN k) os):=
 ⟨rfl,rfl,rfl,by show w.heap.size<=(w.heap++os).size;simp,fun b hb=>by show(w.heap++os)[b]?=_;rw[Array.getElem?_append_left hb]⟩
theorem gok_pow {w:World} {U:Nat->Prop} (h:GOk tab w U):Lib.TabIs Tryz.prog w "internal/strconv.uint64pow10" .u64 Lib.pow10Tab:=by
 obtain⟨_,_,t,fz,hw⟩:=h.full (6,(pow10.map fun z=>Value.int .u64 z).toArray) (by simp[tab,tabFull])
 have e1:Tryz.prog.globalNamed "internal/strconv.uint64pow10" =some 6:=by kernel_rfl
 have e2:(Lib.pow10Tab.map fun z=>Value.int .u64 z).toArray=(pow10.map fun z=>Value.int .u64 z).toArray:=by rfl
 unfold Lib.TabIs World.var?
 rw[e1,e2]
 simp only[Option.bind_some,hw]
theorem itoa_sat (n:Int) (h0:-9223372036854775808<=n) (h1:n<=9223372036854775807):
  SatG Tryz.prog tab 126 [] ([.int .i64 n].map AV.lit) [] (S (strOf (Lib.itoa n))):=by
 refine sat_plain ⟨Tryz.f126,Tryz.func126,by rfl,by rfl⟩ fun w U hg=>?_
 refine(Tryz.strconv_Itoa n h0 h1 w (gok_pow hg)).mono ?_
 rintro en w' ⟨rfl,k,os,rfl⟩
 exact⟨_,rfl,fun U'=> .lit _ rfl,below_grow w k os⟩
theorem replaceAll_sat (s old new:List UInt8) (hs:s.length<4294967281) (h1:1<=old.length) (hlen:s.length+Lib.countB (strOf s) (strOf old)*new.length<=140737488355328):
  SatG Tryz.prog tab 107 [] ([.string (strOf s), .string (strOf old), .string (strOf new)].map AV.lit) [] (S (strOf (Lib.replaceAll s old new))):=by
 refine sat_plain ⟨Tryz.f107,Tryz.func107,by rfl,by rfl⟩ fun w U hg=>?_
 obtain⟨m,hm⟩:=gok_max hg
 refine(Tryz.strings_ReplaceAll (strOf s) (strOf old) (strOf new) m w (by rw[str_size];exact hs) hm (by rw[str_size];exact h1) (by rw[str_size,str_size];exact hlen)).mono ?_
 rintro en w' ⟨rfl,hb⟩
 refine⟨_,rfl,fun U'=>?_,hb⟩
 simp only[str_list]
 exact .lit _ rfl
theorem repeat_sat (s:List UInt8) (c:Nat) (hc:c<=9223372036854775807) (hlen:s.length*c<=140737488355328):
  SatG Tryz.prog tab 130 [] ([.string (strOf s), .int .i64 c].map AV.lit) [] (S (strOf (Lib.repeatL s c))):=by
 refine sat_plain ⟨Tryz.f130,Tryz.func130,by rfl,by rfl⟩ fun w U hg=>?_
 refine(Tryz.strings_Repeat (strOf s) c w hc (by rw[str_size];exact hlen)).mono ?_
 rintro en w' ⟨rfl,hb⟩
 refine⟨_,rfl,fun U'=>?_,hb⟩
 simp only[str_list]
 exact .lit _ rfl
def atoiN (s:List UInt8):Int:=match Lib.atoiAll s with
 | .ok v=>v
 | .range=>Lib.atoiSat s
 |_=>0
def atoiE (s:List UInt8):AV:=match Lib.atoiAll s with
 | .ok _=> .lit .nilIface
 |_=> .ifn
theorem below_bytes (w:World) (e:TypeId) (t:ByteArray):Below w.heap.size w (Lib.bytesWorld w e t):=
 ⟨rfl,rfl,rfl,by rw[Lib.bytesWorld_size];omega,fun b hb=>Lib.bytesWorld_at_old w e t b hb⟩
theorem atoi_sat (s:List UInt8) (hs:s.length<=281474976710656):
  SatG Tryz.prog tab 151 [] ([.string (strOf s)].map AV.lit) [] (.tup [I (atoiN s),atoiE s]):=by
 refine sat_plain ⟨Tryz.f151,Tryz.func151,by rfl,by rfl⟩ fun w U hg=>?_
 unfold atoiN atoiE
 cases h:Lib.atoiAll s with
 |ok v=>
  refine(Tryz.strconv_Atoi_ok (strOf s) (by rw[str_size];omega) v (by rw[str_list];exact h) w).mono ?_
  rintro en w' ⟨rfl,hw⟩
  refine⟨_,rfl,fun U'=> .tup _ _ rfl fun i hi=>?_,?_⟩
  ·rcases(by simp at hi;omega:i=0\/i=1) with rfl|rfl<;>exact .lit _ rfl
  ·rcases hw with rfl|⟨t,rfl⟩
   ·exact Below.refl _ _
   ·exact below_bytes _ _ _
 |range=>
  obtain⟨ev,h1,h2⟩:=gok_if hg (g:=8) rfl
  refine(Tryz.strconv_Atoi_range (strOf s) (by rw[str_size];omega) (by rw[str_list];exact h) ev w h1 h2).mono ?_
  rintro en w' ⟨N,rfl,_,_,hb⟩
  refine⟨_,rfl,fun U'=> .tup _ _ rfl fun i hi=>?_,hb⟩
  rcases(by simp at hi;omega:i=0\/i=1) with rfl|rfl
  ·rw[str_list];exact .lit _ rfl
  ·exact .ifn _ _
 |_=>
  obtain⟨ev,h1,h2⟩:=gok_if hg (g:=7) rfl
  refine(Tryz.strconv_Atoi_syntax (strOf s) (by rw[str_size];omega) (by rw[str_list,IsSyn,h];exact⟨fun v=>by simp,by simp⟩) ev w h1 h2).mono ?_
  rintro en w' ⟨N,rfl,_,_,hb⟩
  refine⟨_,rfl,fun U'=> .tup _ _ rfl fun i hi=>?_,hb⟩
  rcases(by simp at hi;omega:i=0\/i=1) with rfl|rfl
  ·exact .lit _ rfl
  ·exact .ifn _ _
theorem VR_sl {w:World} {U:Nat->Prop} {e:Env} {G:Nat->Prop} {es:List AV} {full:Bool} {x:Value} (h:VR w U e G (.sl es full) x):VD w U (.sl es full) x:=h.sl_inv
theorem join_sat (xs:List (List UInt8)) (sep:List UInt8) (h0:xs≠[]) (hN:xs.length<=140737488355328) (hlen:(Lib.join xs sep).length<=140737488355328):
  SatG Tryz.prog tab 36 [] [.sl (xs.map fun x=>S (strOf x)) false,S (strOf sep)] [] (S (strOf (Lib.join xs sep))):=by
 refine⟨⟨Tryz.f36,Tryz.func36,by rfl,by rfl⟩,fun w e vals hr hz hg hl hargs=>?_⟩
 obtain⟨v0,v1,rfl⟩:∃v0 v1,vals=#[v0,v1]:=by
  have h2:vals.size=2:=hl.symm
  refine⟨vals[0],vals[1],?_⟩
  apply Array.ext
  ·simpa using h2
  ·intro j h1 h2
   rcases(by omega:j=0\/j=1) with rfl|rfl<;>rfl
 have a0:VR w (UE e) e (Glt 1) (.sl (xs.map fun x=>S (strOf x)) false) v0:=hargs 0 (by simp)
 have a1:VR w (UE e) e (Glt 1) (S (strOf sep)) v1:=hargs 1 (by simp)
 obtain rfl:v1= .string (strOf sep):=a1.lit_inv.1
 rcases(VR_sl a0).sl_inv with ⟨hn,_⟩|⟨b,off,cap,k,f,rfl,hu,hlt,hcap,hmax,_,hk,hkl,hc,hone,hv⟩
 ·exact absurd (by simpa using hn) h0
 ·have hxl:(xs.map fun x=>S (strOf x)).length=xs.length:=by simp
  have hpos:0<xs.length:=by cases xs with
   |nil=>exact absurd rfl h0
   |cons=>simp
  have hk1:k=1:=by
   have:=hkl 0 (by omega)
   simp[AV.cells] at this
   omega
  subst hk1
  have hj:=Tryz.strings_Join b off cap (xs.map strOf) (strOf sep) w (fun j x hx=>by
   rw[List.getElem?_map] at hx
   obtain⟨y,hy,rfl⟩:=Option.map_eq_some_iff.1 hx
   have hjl:j<xs.length:=(List.getElem?_eq_some_iff.1 hy).1
   have h1:=hc j (by omega)
   have h2:=hv j (by omega) 0 (by simp[AV.cells])
   simp only[List.getElem_map,AV.cells,List.getElem_cons_zero,Nat.mul_one,Nat.add_zero] at h2
   have h2:f j= .string (strOf xs[j]):=by
    generalize f j=q at h2
    cases h2 with
    |lit _ _=>rfl
   rw[h1,h2]
   have:xs[j]=y:=by
    have:=(List.getElem?_eq_some_iff.1 hy).2
    exact this
   rw[this]) hlt (by simpa using hN) (by simpa using hcap) (by simpa[List.map_map,Function.comp_def,str_list] using hlen)
  have e1:(xs.map strOf).length=xs.length:=by simp
  rw[e1] at hj
  rw[hxl]
  refine hj.mono ?_
  rintro en w' ⟨rfl,hb⟩
  obtain⟨k1,k2⟩:=none_rel hr hb
  refine⟨_,e,rfl,k1, .dat _ _ ?_,k2,rfl,fun b hb=> .inr hb,⟨hb.os,hb.tape,hb.output,hb.size,fun b hlt _=>hb.block b hlt⟩⟩
  have e2:((xs.map strOf).map (·.data.toList))=xs:=by simp[List.map_map,Function.comp_def,str_list]
  rw[e2,str_list]
  exact .lit _ rfl
theorem digit_sat (c:Int):SatG Tryz.prog tab 152 [] [.lit (.int .u8 c)] [] (B (decide (48<=c/\c<=57))):=by
 refine uFN Tryz.func152 Tryz.ntmps152 ?_;intro w e X hC
 by_cases h:48<=c
 ·have h':decide (48<=c)=true:=decide_eq_true h
  repeat refine uA1 @h' ?_
  (refine awp_ret (ret1 uRT ?_);try rfl)
  first|refine uS1 @h ?_|exact uX1 @h
 ·have h':decide (48<=c)=false:=decide_eq_false h
  repeat refine uA1 @h' ?_
  (refine awp_ret (ret1 uRT ?_);try rfl)
  first|refine uS1 (uI @h @false_and) ?_|exact uX1 (uI @h @false_and)
theorem num_sat (n:Int):SatG Tryz.prog tab 70 [] [I n] [] (B (decide (0<=n/\n<=999999))):=by
 refine uFN Tryz.func70 Tryz.ntmps70 ?_;intro w e X hC
 by_cases h:0<=n
 ·have h':decide (0<=n)=true:=decide_eq_true h
  repeat refine uA1 @h' ?_
  (refine awp_ret (ret1 uRT ?_);try rfl)
  first|refine uS1 @h ?_|exact uX1 @h
 ·have h':decide (0<=n)=false:=decide_eq_false h
  repeat refine uA1 @h' ?_
  (refine awp_ret (ret1 uRT ?_);try rfl)
  first|refine uS1 (uI @h @false_and) ?_|exact uX1 (uI @h @false_and)
theorem rvalidP_sat (a b c:Int):SatG Tryz.prog tab 71 [] [.agg [I a,I b,I c]] [] (B (decide (0<=a/\a<=9/\1<=b/\b<=999/\0<=c/\c<=999999))):=by
 refine uFN Tryz.func71 Tryz.ntmps71 ?_;intro w e X hC
 by_cases h0:¬(0<=a)
 ·have d0:decide (0<=a)=false:=decide_eq_false h0
  repeat refine uA1 @d0 ?_
  (refine awp_ret (ret1 uRT ?_);try rfl)
  have hh:¬(0<=a/\a<=9/\1<=b/\b<=999/\0<=c/\c<=999999):=by omega
  first|refine uS1 @hh ?_|exact uX1 @hh
 replace h0:=Decidable.not_not.1 h0
 have d0:decide (0<=a)=true:=decide_eq_true h0
 by_cases h1:¬(a<=9)
 ·have d1:decide (a<=9)=false:=decide_eq_false h1
  repeat refine uA1 (uI @d0 @d1) ?_
  (refine awp_ret (ret1 uRT ?_);try rfl)
  have hh:¬(0<=a/\a<=9/\1<=b/\b<=999/\0<=c/\c<=999999):=by omega
  first|refine uS1 @hh ?_|exact uX1 @hh
 replace h1:=Decidable.not_not.1 h1
 have d1:decide (a<=9)=true:=decide_eq_true h1
 by_cases h2:¬(1<=b)
 ·have d2:decide (1<=b)=false:=decide_eq_false h2
  repeat refine uA1 (uI @d0 (uI @d1 @d2)) ?_
  (refine awp_ret (ret1 uRT ?_);try rfl)
  have hh:¬(0<=a/\a<=9/\1<=b/\b<=999/\0<=c/\c<=999999):=by omega
  first|refine uS1 @hh ?_|exact uX1 @hh
 replace h2:=Decidable.not_not.1 h2
 have d2:decide (1<=b)=true:=decide_eq_true h2
 by_cases h3:¬(b<=999)
 ·have d3:decide (b<=999)=false:=decide_eq_false h3
  repeat refine uA1 (uI @d0 (uI @d1 (uI @d2 @d3))) ?_
  (refine awp_ret (ret1 uRT ?_);try rfl)
  have hh:¬(0<=a/\a<=9/\1<=b/\b<=999/\0<=c/\c<=999999):=by omega
  first|refine uS1 @hh ?_|exact uX1 @hh
 replace h3:=Decidable.not_not.1 h3
 have d3:decide (b<=999)=true:=decide_eq_true h3
 by_cases h4:¬(0<=c)
 ·have d4:decide (0<=c)=false:=decide_eq_false h4
  repeat refine uA1 (uI @d0 (uI @d1 (uI @d2 (uI @d3 @d4)))) ?_
  (refine awp_ret (ret1 uRT ?_);try rfl)
  have hh:¬(0<=a/\a<=9/\1<=b/\b<=999/\0<=c/\c<=999999):=by omega
  first|refine uS1 @hh ?_|exact uX1 @hh
 replace h4:=Decidable.not_not.1 h4
 have d4:decide (0<=c)=true:=decide_eq_true h4
 by_cases h5:¬(c<=999999)
 ·have d5:decide (c<=999999)=false:=decide_eq_false h5
  repeat refine uA1 (uI @d0 (uI @d1 (uI @d2 (uI @d3 (uI @d4 @d5))))) ?_
  (refine awp_ret (ret1 uRT ?_);try rfl)
  have hh:¬(0<=a/\a<=9/\1<=b/\b<=999/\0<=c/\c<=999999):=by omega
  first|refine uS1 @hh ?_|exact uX1 @hh
 replace h5:=Decidable.not_not.1 h5
 have d5:decide (c<=999999)=true:=decide_eq_true h5
 repeat refine uA1 (uI @d0 (uI @d1 (uI @d2 (uI @d3 (uI @d4 @d5))))) ?_
 (refine awp_ret (ret1 uRT ?_);try rfl)
 have hh:(0<=a/\a<=9/\1<=b/\b<=999/\0<=c/\c<=999999):=by omega
 first|refine uS1 (uI @hh @and_self) ?_|exact uX1 (uI @hh @and_self)
theorem pvalidP_sat (a b c:Int):SatG Tryz.prog tab 105 [] [.agg [I a,I b,I c]] [] (B (decide (0<=a/\a<=9/\1<=b/\b<=999/\0<=c/\c<=999999))):=by
 refine uFN Tryz.func105 Tryz.ntmps105 ?_;intro w e X hC
 by_cases h0:¬(0<=a)
 ·have d0:decide (0<=a)=false:=decide_eq_false h0
  repeat refine uA1 @d0 ?_
  (refine awp_ret (ret1 uRT ?_);try rfl)
  have hh:¬(0<=a/\a<=9/\1<=b/\b<=999/\0<=c/\c<=999999):=by omega
  first|refine uS1 @hh ?_|exact uX1 @hh
 replace h0:=Decidable.not_not.1 h0
 have d0:decide (0<=a)=true:=decide_eq_true h0
 by_cases h1:¬(a<=9)
 ·have d1:decide (a<=9)=false:=decide_eq_false h1
  repeat refine uA1 (uI @d0 @d1) ?_
  (refine awp_ret (ret1 uRT ?_);try rfl)
  have hh:¬(0<=a/\a<=9/\1<=b/\b<=999/\0<=c/\c<=999999):=by omega
  first|refine uS1 @hh ?_|exact uX1 @hh
 replace h1:=Decidable.not_not.1 h1
 have d1:decide (a<=9)=true:=decide_eq_true h1
 by_cases h2:¬(1<=b)
 ·have d2:decide (1<=b)=false:=decide_eq_false h2
  repeat refine uA1 (uI @d0 (uI @d1 @d2)) ?_
  (refine awp_ret (ret1 uRT ?_);try rfl)
  have hh:¬(0<=a/\a<=9/\1<=b/\b<=999/\0<=c/\c<=999999):=by omega
  first|refine uS1 @hh ?_|exact uX1 @hh
 replace h2:=Decidable.not_not.1 h2
 have d2:decide (1<=b)=true:=decide_eq_true h2
 by_cases h3:¬(b<=999)
 ·have d3:decide (b<=999)=false:=decide_eq_false h3
  repeat refine uA1 (uI @d0 (uI @d1 (uI @d2 @d3))) ?_
  (refine awp_ret (ret1 uRT ?_);try rfl)
  have hh:¬(0<=a/\a<=9/\1<=b/\b<=999/\0<=c/\c<=999999):=by omega
  first|refine uS1 @hh ?_|exact uX1 @hh
 replace h3:=Decidable.not_not.1 h3
 have d3:decide (b<=999)=true:=decide_eq_true h3
 by_cases h4:¬(0<=c)
 ·have d4:decide (0<=c)=false:=decide_eq_false h4
  repeat refine uA1 (uI @d0 (uI @d1 (uI @d2 (uI @d3 @d4)))) ?_
  (refine awp_ret (ret1 uRT ?_);try rfl)
  have hh:¬(0<=a/\a<=9/\1<=b/\b<=999/\0<=c/\c<=999999):=by omega
  first|refine uS1 @hh ?_|exact uX1 @hh
 replace h4:=Decidable.not_not.1 h4
 have d4:decide (0<=c)=true:=decide_eq_true h4
 by_cases h5:¬(c<1000000)
 ·have d5:decide (c<1000000)=false:=decide_eq_false h5
  repeat refine uA1 (uI @d0 (uI @d1 (uI @d2 (uI @d3 (uI @d4 @d5))))) ?_
  (refine awp_ret (ret1 uRT ?_);try rfl)
  have hh:¬(0<=a/\a<=9/\1<=b/\b<=999/\0<=c/\c<=999999):=by omega
  first|refine uS1 @hh ?_|exact uX1 @hh
 replace h5:=Decidable.not_not.1 h5
 have d5:decide (c<1000000)=true:=decide_eq_true h5
 repeat refine uA1 (uI @d0 (uI @d1 (uI @d2 (uI @d3 (uI @d4 @d5))))) ?_
 (refine awp_ret (ret1 uRT ?_);try rfl)
 have hh:(0<=a/\a<=9/\1<=b/\b<=999/\0<=c/\c<=999999):=by omega
 first|refine uS1 (uI @hh @and_self) ?_|exact uX1 (uI @hh @and_self)
theorem rnumP_sat (a b c:Int) (ha:0<=a/\a<=9) (hb:0<=b/\b<=999) (hc:0<=c/\c<=999999):SatG Tryz.prog tab 73 [] [.agg [I a,I b,I c]] [] (I ((a*1000+b)*1000000+c)):=by
 refine uFN Tryz.func73 Tryz.ntmps73 ?_;intro w e X hC
 repeat refine uA ?_
 (refine awp_ret (ret1 uRT ?_);try rfl)
theorem pnumP_sat (a b c:Int) (ha:0<=a/\a<=9) (hb:0<=b/\b<=999) (hc:0<=c/\c<=999999):SatG Tryz.prog tab 106 [] [.agg [I a,I b,I c]] [] (I ((a*1000+b)*1000000+c)):=by
 refine uFN Tryz.func106 Tryz.ntmps106 ?_;intro w e X hC
 repeat refine uA ?_
 (refine awp_ret (ret1 uRT ?_);try rfl)
theorem fLetter_sat (c:Int):SatG Tryz.prog tab 145 [] [.lit (.int .u8 c)] [] (B (decide (65<=c/\c<=90))):=by
 refine uFN Tryz.func145 Tryz.ntmps145 ?_;intro w e X hC
 by_cases h:65<=c
 ·have h':decide (65<=c)=true:=decide_eq_true h
  repeat refine uA1 @h' ?_
  (refine awp_ret (ret1 uRT ?_);try rfl)
  first|refine uS1 @h ?_|exact uX1 @h
 ·have h':decide (65<=c)=false:=decide_eq_false h
  repeat refine uA1 @h' ?_
  (refine awp_ret (ret1 uRT ?_);try rfl)
  first|refine uS1 (uI @h @false_and) ?_|exact uX1 (uI @h @false_and)
theorem fDigit_sat (c:Int):SatG Tryz.prog tab 146 [] [.lit (.int .u8 c)] [] (B (decide (48<=c/\c<=57))):=by
 refine uFN Tryz.func146 Tryz.ntmps146 ?_;intro w e X hC
 by_cases h:48<=c
 ·have h':decide (48<=c)=true:=decide_eq_true h
  repeat refine uA1 @h' ?_
  (refine awp_ret (ret1 uRT ?_);try rfl)
  first|refine uS1 @h ?_|exact uX1 @h
 ·have h':decide (48<=c)=false:=decide_eq_false h
  repeat refine uA1 @h' ?_
  (refine awp_ret (ret1 uRT ?_);try rfl)
  first|refine uS1 (uI @h @false_and) ?_|exact uX1 (uI @h @false_and)
theorem rLetter_sat (c:Int):SatG Tryz.prog tab 132 [] [.lit (.int .u8 c)] [] (B (decide (65<=c/\c<=90))):=by
 refine uFN Tryz.func132 Tryz.ntmps132 ?_;intro w e X hC
 by_cases h:65<=c
 ·have h':decide (65<=c)=true:=decide_eq_true h
  repeat refine uA1 @h' ?_
  (refine awp_ret (ret1 uRT ?_);try rfl)
  first|refine uS1 @h ?_|exact uX1 @h
 ·have h':decide (65<=c)=false:=decide_eq_false h
  repeat refine uA1 @h' ?_
  (refine awp_ret (ret1 uRT ?_);try rfl)
  first|refine uS1 (uI @h @false_and) ?_|exact uX1 (uI @h @false_and)
theorem rDigit_sat (c:Int):SatG Tryz.prog tab 133 [] [.lit (.int .u8 c)] [] (B (decide (48<=c/\c<=57))):=by
 refine uFN Tryz.func133 Tryz.ntmps133 ?_;intro w e X hC
 by_cases h:48<=c
 ·have h':decide (48<=c)=true:=decide_eq_true h
  repeat refine uA1 @h' ?_
  (refine awp_ret (ret1 uRT ?_);try rfl)
  first|refine uS1 @h ?_|exact uX1 @h
 ·have h':decide (48<=c)=false:=decide_eq_false h
  repeat refine uA1 @h' ?_
  (refine awp_ret (ret1 uRT ?_);try rfl)
  first|refine uS1 (uI @h @false_and) ?_|exact uX1 (uI @h @false_and)
end Go.Proofs.YtokkbonoplbiaaaGreatDoor
