/- Of EngineClean: Shelf8 Float Float2 Float3. -/
import Derived.Test.YtdokeddjcpnmiaaGreatDoorProg
import Derived.Shelf.Strings.Builder1
import Derived.Shelf.Strings.Builder2
import Derived.Shelf.Small.Bits
import Derived.Shelf.Strings.BuilderF
import Derived.Shelf.Utf8.RuneCount
import Derived.Shelf.Strconv.Itoa0
import Derived.Shelf.Strconv.Itoa1
import Derived.Shelf.LaysM
import Derived.Shelf.Strconv.Itoa2
import Derived.Shelf.Strconv.Itoa3
import Derived.Shelf.Strings.Search1
import Derived.Shelf.Strings.Search2
import Derived.Shelf.Strings.Search3
import Derived.Shelf.Strings.Count
import Derived.Shelf.Strings.Shaped
import Derived.Shelf.Strings.Prefix
import Derived.Shelf.Strings.Split
import Derived.Shelf.Strings.SplitShaped
import Derived.Shelf.Unicode.Decode
import Derived.Shelf.Strings.RuneCount
import Derived.Shelf.Strings.Explode
import Derived.Shelf.Bits.Mul64
import Derived.Shelf.Strings.Repeat
import Derived.Shelf.Unicode.DecodeSlow
import Derived.Shelf.Unicode.DecodeAny
import Ieee.Arith
import Derived.Laws.FloatBits
import Derived.Laws.FloatArith
set_option maxRecDepth 100000
set_option maxHeartbeats 200000
namespace Go.Proofs
open Go.Shelf
def Tryz.Iq:Go.Shelf.Ren:=⟨fun|134=>306|129=>323|n=>n,fun|53=>195|3=>3|4=>4|46=>127|5=>5|9=>9|n=>n,fun|n=>n⟩
theorem Tryz.Ya:Go.Proofs.Lays.n134 Tryz.prog Tryz.Iq:={
 mixed:=by kernel_rfl
 f129:=Tryz.func323.trans (congrArg some (by kernel_rfl))
 f134:=Tryz.func306.trans (congrArg some (by kernel_rfl))
 t3:=Tryz.underlying3
 a3:=Tryz.isAgg3
 z3:=Tryz.sizeOf3
 v3:=Tryz.zeroValue3
 t4:=Tryz.underlying4
 a4:=Tryz.isAgg4
 z4:=Tryz.sizeOf4
 v4:=Tryz.zeroValue4
 t5:=Tryz.underlying5
 a5:=Tryz.isAgg5
 z5:=Tryz.sizeOf5
 v5:=Tryz.zeroValue5
 t9:=Tryz.underlying9
 a9:=Tryz.isAgg9
 z9:=Tryz.sizeOf9
 v9:=Tryz.zeroValue9
 t46:=Tryz.underlying127
 a46:=Tryz.isAgg127
 z46:=Tryz.sizeOf127
 v46:=Tryz.zeroValue127
 t53:=Tryz.underlying195
 a53:=Tryz.isAgg195
 z53:=Tryz.sizeOf195
 v53:=Tryz.zeroValue195}
theorem Tryz.bits_LeadingZeros64(x:Int)(w:World)(h0:0≤x)(h1:x≤18446744073709551615):
 Calls Tryz.prog 306 #[.int .u64 x] w fun e w'=>e=.returned (.int .i64 (64-(Lib.bitLen x.toNat:Int)))∧w'=w:=Any.bits_LeadingZeros64 Tryz.Ya x w h0 h1
def Tryz.Ir:Go.Shelf.Ren:=⟨fun|283=>326|n=>n,fun|3=>3|9=>9|4=>4|n=>n,fun|n=>n⟩
theorem Tryz.Yb:Go.Proofs.Lays.n283 Tryz.prog Tryz.Ir:={
 mixed:=by kernel_rfl
 f283:=Tryz.func326.trans (congrArg some (by kernel_rfl))
 t3:=Tryz.underlying3
 a3:=Tryz.isAgg3
 z3:=Tryz.sizeOf3
 v3:=Tryz.zeroValue3
 t4:=Tryz.underlying4
 a4:=Tryz.isAgg4
 z4:=Tryz.sizeOf4
 v4:=Tryz.zeroValue4
 t9:=Tryz.underlying9
 a9:=Tryz.isAgg9
 z9:=Tryz.sizeOf9
 v9:=Tryz.zeroValue9}
open Go.Lib in
theorem Tryz.internal_strconv_small(i:Nat)(h:i<100)(w:World):
 Calls Tryz.prog 326 #[.int .i64 i] w fun e w'=>e=.returned (.string ⟨(Lib.decDigits i).toArray⟩)∧w'=w:=Any.internal_strconv_small Tryz.Yb i h w
def Tryz.Fy:Go.Shelf.Ren:=⟨fun|284=>327|129=>323|317=>337|318=>338|n=>n,fun|53=>195|3=>3|212=>302|0=>0|4=>4|46=>127|5=>5|9=>9|n=>n,fun|17=>7|n=>n⟩
theorem Tryz.Un:Go.Proofs.LaysM.n284 Tryz.prog Tryz.Fy:={
 mixed:=by kernel_rfl
 f129:=Tryz.func323.trans (congrArg some (by kernel_rfl))
 f284:=Tryz.func327.trans (congrArg some (by kernel_rfl))
 f317:=Tryz.func337.trans (congrArg some (by kernel_rfl))
 f318:=Tryz.func338.trans (congrArg some (by kernel_rfl))
 t0:=Tryz.underlying0
 a0:=Tryz.isAgg0
 z0:=Tryz.sizeOf0
 v0:=Tryz.zeroValue0
 t3:=Tryz.underlying3
 a3:=Tryz.isAgg3
 z3:=Tryz.sizeOf3
 v3:=Tryz.zeroValue3
 t4:=Tryz.underlying4
 a4:=Tryz.isAgg4
 z4:=Tryz.sizeOf4
 v4:=Tryz.zeroValue4
 t5:=Tryz.underlying5
 a5:=Tryz.isAgg5
 z5:=Tryz.sizeOf5
 v5:=Tryz.zeroValue5
 t9:=Tryz.underlying9
 a9:=Tryz.isAgg9
 z9:=Tryz.sizeOf9
 v9:=Tryz.zeroValue9
 t46:=Tryz.underlying127
 a46:=Tryz.isAgg127
 z46:=Tryz.sizeOf127
 v46:=Tryz.zeroValue127
 t53:=Tryz.underlying195
 a53:=Tryz.isAgg195
 z53:=Tryz.sizeOf195
 v53:=Tryz.zeroValue195
 t212:=Tryz.underlying302
 a212:=Tryz.isAgg302
 z212:=Tryz.sizeOf302
 v212:=Tryz.zeroValue302
 g17:=by kernel_rfl
 i0:=by kernel_rfl
 i3:=by kernel_rfl
 i4:=by kernel_rfl
 i5:=by kernel_rfl
 i9:=by kernel_rfl
 i46:=by kernel_rfl
 i53:=by kernel_rfl
 i212:=by kernel_rfl
 m17:=by kernel_rfl}
open Go.Lib in
theorem Tryz.internal_strconv_numDigits(u:Nat)(h1:1≤u)(h2:u<18446744073709551616)(w:World)(Di:Lib.TabIs Tryz.prog w "internal/strconv.uint64pow10" .u64 Lib.pow10Tab):
 Calls Tryz.prog 327 #[.int .u64 u] w fun e w'=>e=.returned (.int .i64 (Lib.nDigits u))∧w'=w:=Any.internal_strconv_numDigits Tryz.Un u h1 h2 w Di
def Tryz.Iu:Go.Shelf.Ren:=⟨fun|285=>328|n=>n,fun|37=>90|53=>195|3=>3|4=>4|51=>192|9=>9|5=>5|0=>0|n=>n,fun|n=>n⟩
theorem Tryz.Yc:Go.Proofs.Lays.n285 Tryz.prog Tryz.Iu:={
 mixed:=by kernel_rfl
 f285:=Tryz.func328.trans (congrArg some (by kernel_rfl))
 t0:=Tryz.underlying0
 a0:=Tryz.isAgg0
 z0:=Tryz.sizeOf0
 v0:=Tryz.zeroValue0
 t3:=Tryz.underlying3
 a3:=Tryz.isAgg3
 z3:=Tryz.sizeOf3
 v3:=Tryz.zeroValue3
 t4:=Tryz.underlying4
 a4:=Tryz.isAgg4
 z4:=Tryz.sizeOf4
 v4:=Tryz.zeroValue4
 t5:=Tryz.underlying5
 a5:=Tryz.isAgg5
 z5:=Tryz.sizeOf5
 v5:=Tryz.zeroValue5
 t9:=Tryz.underlying9
 a9:=Tryz.isAgg9
 z9:=Tryz.sizeOf9
 v9:=Tryz.zeroValue9
 t37:=Tryz.underlying90
 a37:=Tryz.isAgg90
 z37:=Tryz.sizeOf90
 v37:=Tryz.zeroValue90
 t51:=Tryz.underlying192
 a51:=Tryz.isAgg192
 z51:=Tryz.sizeOf192
 v51:=Tryz.zeroValue192
 t53:=Tryz.underlying195
 a53:=Tryz.isAgg195
 z53:=Tryz.sizeOf195
 v53:=Tryz.zeroValue195}
open Go.RowKit Go.Sort Go.Lib in
theorem Tryz.internal_strconv_formatBase10(blk off cap:Nat)(u:Nat)(d:Array UInt8)(w:World)(hH:Holds (fun(b:UInt8)=>Value.int .u8 (b.toNat:Int)) w blk off d)(hu:u<10^d.size)(KZ:u<18446744073709551616)(hsz:d.size<4611686018427387904):
 Calls Tryz.prog 328 #[.slice (some ⟨blk,off,none⟩) d.size cap,.int .u64 u] w fun e w'=>
  e=.returned (.tuple #[])∧∃(n v':Nat) (dk:Array UInt8),w'=(putRow (fun(b:UInt8)=>Value.int .u8 (b.toNat:Int)) w blk off dk).drewN n∧FmtInv d.size u 0 v' dk:=Any.internal_strconv_formatBase10 Tryz.Yc blk off cap u d w hH hu KZ hsz
def Tryz.Fz:Go.Shelf.Ren:=⟨fun|171=>287|243=>311|246=>330|283=>326|284=>327|285=>328|286=>329|129=>323|317=>337|318=>338|319=>339|320=>340|337=>343|338=>309|n=>n,fun|3=>3|9=>9|2=>2|4=>4|171=>287|0=>0|53=>195|37=>90|5=>5|173=>289|212=>302|51=>192|20=>20|213=>303|46=>127|232=>306|233=>286|n=>n,fun|17=>7|18=>8|19=>4|n=>n⟩
theorem Tryz.Uo:Go.Proofs.LaysM.n171 Tryz.prog Tryz.Fz:={
 mixed:=by kernel_rfl
 f129:=Tryz.func323.trans (congrArg some (by kernel_rfl))
 f171:=Tryz.func287.trans (congrArg some (by kernel_rfl))
 f243:=Tryz.func311.trans (congrArg some (by kernel_rfl))
 f246:=Tryz.func330.trans (congrArg some (by kernel_rfl))
 f283:=Tryz.func326.trans (congrArg some (by kernel_rfl))
 f284:=Tryz.func327.trans (congrArg some (by kernel_rfl))
 f285:=Tryz.func328.trans (congrArg some (by kernel_rfl))
 f286:=Tryz.func329.trans (congrArg some (by kernel_rfl))
 f317:=Tryz.func337.trans (congrArg some (by kernel_rfl))
 f318:=Tryz.func338.trans (congrArg some (by kernel_rfl))
 f319:=Tryz.func339.trans (congrArg some (by kernel_rfl))
 f320:=Tryz.func340.trans (congrArg some (by kernel_rfl))
 f337:=Tryz.func343.trans (congrArg some (by kernel_rfl))
 f338:=Tryz.func309.trans (congrArg some (by kernel_rfl))
 t0:=Tryz.underlying0
 a0:=Tryz.isAgg0
 z0:=Tryz.sizeOf0
 v0:=Tryz.zeroValue0
 t2:=Tryz.underlying2
 a2:=Tryz.isAgg2
 z2:=Tryz.sizeOf2
 v2:=Tryz.zeroValue2
 t3:=Tryz.underlying3
 a3:=Tryz.isAgg3
 z3:=Tryz.sizeOf3
 v3:=Tryz.zeroValue3
 t4:=Tryz.underlying4
 a4:=Tryz.isAgg4
 z4:=Tryz.sizeOf4
 v4:=Tryz.zeroValue4
 t5:=Tryz.underlying5
 a5:=Tryz.isAgg5
 z5:=Tryz.sizeOf5
 v5:=Tryz.zeroValue5
 t9:=Tryz.underlying9
 a9:=Tryz.isAgg9
 z9:=Tryz.sizeOf9
 v9:=Tryz.zeroValue9
 t20:=Tryz.underlying20
 a20:=Tryz.isAgg20
 z20:=Tryz.sizeOf20
 v20:=Tryz.zeroValue20
 t37:=Tryz.underlying90
 a37:=Tryz.isAgg90
 z37:=Tryz.sizeOf90
 v37:=Tryz.zeroValue90
 t46:=Tryz.underlying127
 a46:=Tryz.isAgg127
 z46:=Tryz.sizeOf127
 v46:=Tryz.zeroValue127
 t51:=Tryz.underlying192
 a51:=Tryz.isAgg192
 z51:=Tryz.sizeOf192
 v51:=Tryz.zeroValue192
 t53:=Tryz.underlying195
 a53:=Tryz.isAgg195
 z53:=Tryz.sizeOf195
 v53:=Tryz.zeroValue195
 t171:=Tryz.underlying287
 a171:=Tryz.isAgg287
 z171:=Tryz.sizeOf287
 v171:=Tryz.zeroValue287
 t173:=Tryz.underlying289
 a173:=Tryz.isAgg289
 z173:=Tryz.sizeOf289
 v173:=Tryz.zeroValue289
 t212:=Tryz.underlying302
 a212:=Tryz.isAgg302
 z212:=Tryz.sizeOf302
 v212:=Tryz.zeroValue302
 t213:=Tryz.underlying303
 a213:=Tryz.isAgg303
 z213:=Tryz.sizeOf303
 t232:=Tryz.underlying306
 a232:=Tryz.isAgg306
 z232:=Tryz.sizeOf306
 v232:=Tryz.zeroValue306
 t233:=Tryz.underlying286
 a233:=Tryz.isAgg286
 z233:=Tryz.sizeOf286
 v233:=Tryz.zeroValue286
 g17:=by kernel_rfl
 g18:=by kernel_rfl
 g19:=by kernel_rfl
 i0:=by kernel_rfl
 i2:=by kernel_rfl
 i3:=by kernel_rfl
 i4:=by kernel_rfl
 i5:=by kernel_rfl
 i9:=by kernel_rfl
 i20:=by kernel_rfl
 i37:=by kernel_rfl
 i46:=by kernel_rfl
 i51:=by kernel_rfl
 i53:=by kernel_rfl
 i171:=by kernel_rfl
 i173:=by kernel_rfl
 i212:=by kernel_rfl
 i232:=by kernel_rfl
 i233:=by kernel_rfl
 m17:=by kernel_rfl
 m18:=by kernel_rfl
 m19:=by kernel_rfl}
open Go.RowKit Go.Sort Go.Lib in
theorem Tryz.strconv_Itoa(n:Int)(h0: -9223372036854775808≤n)(h1:n≤9223372036854775807)(w:World)(Di:Lib.TabIs Tryz.prog w "internal/strconv.uint64pow10" .u64 Lib.pow10Tab):
 Calls Tryz.prog 287 #[.int .i64 n] w fun e w'=>e=.returned (.string ⟨(Lib.itoa n).toArray⟩)∧∃k os,w'=grow (w.drewN k) os:=Any.strconv_Itoa Tryz.Uo n h0 h1 w Di
def Tryz.Iw:Go.Shelf.Ren:=⟨fun|264=>146|n=>n,fun|53=>195|46=>127|n=>n,fun|n=>n⟩
theorem Tryz.Yd:Go.Proofs.Lays.n264 Tryz.prog Tryz.Iw:={
 mixed:=by kernel_rfl
 f264:=Tryz.func146.trans (congrArg some (by kernel_rfl))
 t46:=Tryz.underlying127
 a46:=Tryz.isAgg127
 z46:=Tryz.sizeOf127
 v46:=Tryz.zeroValue127
 t53:=Tryz.underlying195
 a53:=Tryz.isAgg195
 z53:=Tryz.sizeOf195
 v53:=Tryz.zeroValue195}
open Go.RowKit Go.Lib in
theorem Tryz.bits_Mul64(x y:Nat)(hx:x<18446744073709551616)(hy:y<18446744073709551616)(w:World):
 Calls Tryz.prog 146 #[.int .u64 x,.int .u64 y] w fun e w'=>e=.returned (.tuple #[.int .u64 ((x*y / 18446744073709551616:Nat):Int),.int .u64 ((x*y%18446744073709551616:Nat):Int)])∧w'=w:=Any.bits_Mul64 Tryz.Yd x y hx hy w
def Tryz.yX:Go.Shelf.Ren:=⟨fun|105=>230|212=>119|99=>288|165=>289|166=>290|170=>291|169=>292|263=>145|264=>146|206=>312|240=>313|241=>314|276=>331|277=>332|n=>n,fun|9=>9|3=>3|4=>4|20=>20|0=>0|46=>127|109=>173|5=>5|72=>264|76=>267|51=>192|146=>193|53=>195|148=>196|70=>262|37=>90|75=>266|127=>282|164=>292|80=>74|n=>n,fun|n=>n⟩
theorem Tryz.Ye:Go.Proofs.Lays.n105 Tryz.prog Tryz.yX:={
 mixed:=by kernel_rfl
 f99:=Tryz.func288.trans (congrArg some (by kernel_rfl))
 f105:=Tryz.func230.trans (congrArg some (by kernel_rfl))
 f165:=Tryz.func289.trans (congrArg some (by kernel_rfl))
 f166:=Tryz.func290.trans (congrArg some (by kernel_rfl))
 f169:=Tryz.func292.trans (congrArg some (by kernel_rfl))
 f170:=Tryz.func291.trans (congrArg some (by kernel_rfl))
 f206:=Tryz.func312.trans (congrArg some (by kernel_rfl))
 f212:=Tryz.func119.trans (congrArg some (by kernel_rfl))
 f240:=Tryz.func313.trans (congrArg some (by kernel_rfl))
 f241:=Tryz.func314.trans (congrArg some (by kernel_rfl))
 f263:=Tryz.func145.trans (congrArg some (by kernel_rfl))
 f264:=Tryz.func146.trans (congrArg some (by kernel_rfl))
 f276:=Tryz.func331.trans (congrArg some (by kernel_rfl))
 f277:=Tryz.func332.trans (congrArg some (by kernel_rfl))
 t0:=Tryz.underlying0
 a0:=Tryz.isAgg0
 z0:=Tryz.sizeOf0
 v0:=Tryz.zeroValue0
 t3:=Tryz.underlying3
 a3:=Tryz.isAgg3
 z3:=Tryz.sizeOf3
 v3:=Tryz.zeroValue3
 t4:=Tryz.underlying4
 a4:=Tryz.isAgg4
 z4:=Tryz.sizeOf4
 v4:=Tryz.zeroValue4
 t5:=Tryz.underlying5
 a5:=Tryz.isAgg5
 z5:=Tryz.sizeOf5
 v5:=Tryz.zeroValue5
 t9:=Tryz.underlying9
 a9:=Tryz.isAgg9
 z9:=Tryz.sizeOf9
 v9:=Tryz.zeroValue9
 t20:=Tryz.underlying20
 a20:=Tryz.isAgg20
 z20:=Tryz.sizeOf20
 v20:=Tryz.zeroValue20
 t37:=Tryz.underlying90
 a37:=Tryz.isAgg90
 z37:=Tryz.sizeOf90
 v37:=Tryz.zeroValue90
 t46:=Tryz.underlying127
 a46:=Tryz.isAgg127
 z46:=Tryz.sizeOf127
 v46:=Tryz.zeroValue127
 t51:=Tryz.underlying192
 a51:=Tryz.isAgg192
 z51:=Tryz.sizeOf192
 v51:=Tryz.zeroValue192
 t53:=Tryz.underlying195
 a53:=Tryz.isAgg195
 z53:=Tryz.sizeOf195
 v53:=Tryz.zeroValue195
 t70:=Tryz.underlying262
 a70:=Tryz.isAgg262
 z70:=Tryz.sizeOf262
 v70:=Tryz.zeroValue262
 t72:=Tryz.underlying264
 a72:=Tryz.isAgg264
 z72:=Tryz.sizeOf264
 v72:=Tryz.zeroValue264
 t75:=Tryz.underlying266
 a75:=Tryz.isAgg266
 z75:=Tryz.sizeOf266
 v75:=Tryz.zeroValue266
 t76:=Tryz.underlying267
 a76:=Tryz.isAgg267
 z76:=Tryz.sizeOf267
 v76:=Tryz.zeroValue267
 t109:=Tryz.underlying173
 a109:=Tryz.isAgg173
 z109:=Tryz.sizeOf173
 v109:=Tryz.zeroValue173
 t127:=Tryz.underlying282
 a127:=Tryz.isAgg282
 z127:=Tryz.sizeOf282
 v127:=Tryz.zeroValue282
 t146:=Tryz.underlying193
 a146:=Tryz.isAgg193
 z146:=Tryz.sizeOf193
 v146:=Tryz.zeroValue193
 t148:=Tryz.underlying196
 a148:=Tryz.isAgg196
 z148:=Tryz.sizeOf196
 v148:=Tryz.zeroValue196
 t164:=Tryz.underlying292
 a164:=Tryz.isAgg292
 z164:=Tryz.sizeOf292
 v164:=Tryz.zeroValue292}
theorem Tryz.wu:Builder.Extra Tryz.prog Tryz.yX:={
 sizeBuilder:=by kernel_rfl
 liesBuilder:=by kernel_rfl
 t5:=Tryz.underlying5
 a5:=Tryz.isAgg5
 z5:=Tryz.sizeOf5
 v5:=Tryz.zeroValue5
 infoByte:=by kernel_rfl
 cellsByte:=by kernel_rfl
 sizeByte:=by kernel_rfl
 neB5:=by decide}
open Go.RowKit Go.Lib in
theorem Tryz.strings_Repeat(s:ByteArray)(c:Nat)(w:World)(hc:c≤9223372036854775807)(hlen:s.size*c≤140737488355328):
 Calls Tryz.prog 230 #[.string s,.int .i64 c] w fun e w'=>e=.returned (.string ⟨(Lib.repeatL s.data.toList c).toArray⟩)∧Below w.heap.size w w':=Any.strings_Repeat Tryz.Ye Tryz.wu s c w hc hlen
end Go.Proofs
namespace Go.Proofs.YtdokeddjcpnmiaaGreatDoor.Fl
open Ieee
def M(r:Nat):Nat:=if r<4503599627370496 then r else 4503599627370496+r%4503599627370496
def E(r:Nat):Nat:=if r<4503599627370496 then 0 else r / 4503599627370496-1
def Nv(r:Nat):Nat:=M r*2^E r
def sg(w:Nat):Bool:=w / 9223372036854775808%2==1
def rg(w:Nat):Nat:=w%9223372036854775808
theorem rV:double.binade=4503599627370496:=by decide
theorem I6:double.infRung=9218868437227405312:=by decide
theorem yg:double.signWeight=9223372036854775808:=by decide
theorem wI:double.leastPlace= -1074:=by decide
theorem qb{w:Nat}(h:rg w<9218868437227405312):double.read w=.number (sg w) (M (rg w)) (-1074+(E (rg w):Int)):=by
 unfold Format.read M E sg rg at*;simp only[rV,I6,yg,wI];split
 ·simp
 ·rfl
theorem BN{w:Nat}(h:rg w=9218868437227405312):double.read w=.infinity (sg w):=by
 unfold Format.read sg rg at*;simp only[rV,I6,yg,wI];rw[if_neg (by omega),if_neg (by omega),if_pos h]
theorem qd{w:Nat}(h:9218868437227405312<rg w):double.read w=.nan (sg w) (rg w-9218868437227405312):=by
 unfold Format.read sg rg at*;simp only[rV,I6,yg,wI];rw[if_neg (by omega),if_neg (by omega),if_neg (by omega)]
theorem FL(r:Nat):M r<9007199254740992:=by unfold M;split<;>omega
theorem Mn{r:Nat}(h:4503599627370496≤r):4503599627370496≤M r:=by unfold M;split<;>omega
theorem EM(r:Nat):E r*4503599627370496+M r=r:=by unfold E M;split<;>omega
theorem Zx{r:Nat}(h:0<E r):4503599627370496≤M r:=by unfold E M at*;split<;>simp_all
theorem fL{r:Nat}(h:M r=0):r=0:=by unfold M at h;split at h<;>omega
theorem Yu{r:Nat}(h:Nv r=0):r=0:=by
 unfold Nv at h;rcases Nat.mul_eq_zero.1 h with h|h
 ·exact fL h
 ·exact absurd h (Nat.ne_of_gt (Nat.two_pow_pos _))
theorem gK(m k:Nat)(h:m≠0):(m*2^k).log2=m.log2+k:=by
 induction k with
 |zero=>simp
 |succ k ih=>rw[Nat.pow_succ,←Nat.mul_assoc,Nat.mul_comm _ 2,Nat.log2_two_mul (Nat.mul_ne_zero h (Nat.ne_of_gt (Nat.two_pow_pos k))),ih];omega
theorem fN{r:Nat}(h:4503599627370496≤r):(M r).log2=52:=by
 have h1:=Mn h;have h2:=FL r;have:52≤(M r).log2:=(Nat.le_log2 (by omega)).2 (by simpa using h1);have:(M r).log2<53:=(Nat.log2_lt (by omega)).2 (by simpa using h2);omega
theorem Lr{r:Nat}(h:r<4503599627370496):r.log2<52:=by
 by_cases h0:r=0
 ·subst h0;decide
 ·exact(Nat.log2_lt h0).2 (by simpa using h)
theorem U3(neg:Bool)(n:Nat):Toward.even.cut neg n 0=n:=by
 unfold Toward.cut;simp[Nat.mod_one]
theorem Qe(neg:Bool)(m d:Nat)(h:m≠0):Toward.even.cut neg (m*2^d) d=m:=by
 unfold Toward.cut;have h1:min d ((m*2^d).log2+2)=d:=by rw[gK m d h];omega
 have hp:0<2^d:=Nat.two_pow_pos d;simp only[h1,Nat.one_shiftLeft,Nat.mul_mod_left,Nat.mul_div_cancel _ hp];have e1:(decide (2^d<2*0))=false:=by simp
 have e2:(2^d==2*0)=false:=by rw[beq_eq_false_iff_ne];omega
 rw[e1,e2];simp
theorem u6(neg:Bool)(r:Nat)(hr:r<9218868437227405312)(Yv:Nat)(place:Int)(s:Nat)(hs:0≤place+1074+s)(he:Yv*2^(place+1074+s).toNat=Nv r*2^s):
 double.nearest neg Yv place=double.word neg r:=by
 unfold Format.nearest;by_cases hm:Yv=0
 ·subst hm;rw[Nat.zero_mul]at he;have h0:Nv r=0:=by
   rcases Nat.mul_eq_zero.1 he.symm with h|h
   ·exact h
   ·exact absurd h (Nat.ne_of_gt (Nat.two_pow_pos _))
  rw[if_pos rfl,Yu h0]
 ·rw[if_neg hm];obtain⟨t,ht⟩:∃t:Nat,place+1074+s=t:=⟨(place+1074+s).toNat,by omega⟩;rw[ht,Int.toNat_natCast]at he;have hM:M r≠0:=by
   intro h;rw[Nv,h,Nat.zero_mul,Nat.zero_mul]at he;rcases Nat.mul_eq_zero.1 he with h1|h1
   ·exact hm h1
   ·exact absurd h1 (Nat.ne_of_gt (Nat.two_pow_pos _))
  have U4:Yv*2^t=M r*2^(E r+s):=by rw[he,Nv,Nat.pow_add,Nat.mul_assoc]
  have hl:Yv.log2+t=(M r).log2+(E r+s):=by
   rw[←gK Yv t hm,U4,gK _ _ hM]
  have vV:max (place+(Yv.log2:Int)-(double.fractionBits:Int)) double.leastPlace=(E r:Int)-1074:=by
   rw[wI];show max (place+(Yv.log2:Int)-52) (-1074)=_;by_cases h52:4503599627370496≤r
   ·have:=fN h52;omega
   ·have e0:E r=0:=by unfold E;rw[if_pos (by omega)]
    have em:M r=r:=by unfold M;rw[if_pos (by omega)]
    have:=Lr (r:=r) (by omega);rw[em]at hl;omega
  simp only[vV];have wk:((E r:Int)-1074-double.leastPlace).toNat=E r:=by rw[wI];omega
  rw[wk,rV,I6];have wl:Toward.even.cut neg (Yv<<<(place-((E r:Int)-1074)).toNat) ((E r:Int)-1074-place).toNat=M r:=by
   by_cases hp:(E r:Int)-1074≤place
   ·have e0:((E r:Int)-1074-place).toNat=0:=by omega
    rw[e0,U3,Nat.shiftLeft_eq];obtain⟨k,hk⟩:∃k:Nat,place-((E r:Int)-1074)=k:=⟨(place-((E r:Int)-1074)).toNat,by omega⟩;rw[hk,Int.toNat_natCast];have ww:t=k+(E r+s):=by omega
    rw[ww,Nat.pow_add,←Nat.mul_assoc]at U4;exact Nat.eq_of_mul_eq_mul_right (Nat.two_pow_pos _) U4
   ·have e0:(place-((E r:Int)-1074)).toNat=0:=by omega
    obtain⟨k,hk⟩:∃k:Nat,(E r:Int)-1074-place=k:=⟨((E r:Int)-1074-place).toNat,by omega⟩;rw[e0,hk,Int.toNat_natCast,Nat.shiftLeft_zero];have ww:E r+s=k+t:=by omega
    rw[ww,Nat.pow_add,←Nat.mul_assoc]at U4;have Mp:=Nat.eq_of_mul_eq_mul_right (Nat.two_pow_pos _) U4;rw[Mp];exact Qe neg _ _ hM
  rw[wl,EM,Nat.min_eq_left (by omega)]
theorem Nf(neg:Bool)(r:Nat)(h:r<9223372036854775808):sg (double.word neg r)=neg:=by
 unfold sg Format.word;rw[yg];cases neg
 ·have:r / 9223372036854775808=0:=by omega
  simp[this]
 ·have:(9223372036854775808+r) / 9223372036854775808=1:=by omega
  simp[this]
theorem FM(neg:Bool)(r:Nat)(h:r<9223372036854775808):rg (double.word neg r)=r:=by
 unfold rg Format.word;rw[yg];cases neg<;>simp<;>omega
theorem BO{r r':Nat}(h:r<r'):Nv r<Nv r':=by
 have h1:=EM r;have h2:=EM r';have m1:=FL r;have m2:=FL r';unfold Nv;by_cases he:E r=E r'
 ·rw[he];exact Nat.mul_lt_mul_of_pos_right (by rw[he]at h1;omega) (Nat.two_pow_pos _)
 ·have hE:E r<E r':=by
   rcases Nat.lt_or_gt_of_ne he with h3|h3
   ·exact h3
   ·have:=Zx (r:=r) (by omega);omega
  have h4:=Zx (r:=r') (by omega);calc M r*2^E r<9007199254740992*2^E r:=Nat.mul_lt_mul_of_pos_right m1 (Nat.two_pow_pos _)
   _=4503599627370496*2^(E r+1):=by rw[Nat.pow_succ];omega
   _≤4503599627370496*2^E r':=Nat.mul_le_mul_left _ (Nat.pow_le_pow_right (by omega) hE)
   _≤M r'*2^E r':=Nat.mul_le_mul_right _ h4
theorem FN(m j:Nat)(hm:m<9007199254740992)(hl:m=0∨m.log2+j<2098):∃r,r<9218868437227405312∧Nv r=m*2^j:=by
 by_cases h0:m=0
 ·exact⟨0,by omega,by subst h0;simp[Nv,M]⟩
 ·have hl:=hl.resolve_left h0;have CN:m.log2<53:=(Nat.log2_lt h0).2 (by simpa using hm);by_cases hs:m.log2+j<52
  ·have hlt:m*2^j<4503599627370496:=by
    have:=(Nat.log2_lt (n:=m*2^j) (k:=52) (Nat.mul_ne_zero h0 (Nat.ne_of_gt (Nat.two_pow_pos j)))).1 (by rw[gK m j h0];exact hs);simpa using this
   refine⟨m*2^j,by omega,?_⟩;unfold Nv M E;rw[if_pos hlt,if_pos hlt,Nat.pow_zero,Nat.mul_one]
  ·
   obtain⟨e,he⟩:∃e,m.log2+j=52+e:=⟨m.log2+j-52,by omega⟩;obtain⟨d,hd⟩:∃d,m.log2+d=52:=⟨52-m.log2,by omega⟩;have hj:j=d+e:=by omega
   have Gi:4503599627370496≤m*2^d:=by
    have:=(Nat.le_log2 (n:=m*2^d) (k:=52) (Nat.mul_ne_zero h0 (Nat.ne_of_gt (Nat.two_pow_pos d)))).1 (by rw[gK m d h0];omega);simpa using this
   have hhi:m*2^d<9007199254740992:=by
    have:=(Nat.log2_lt (n:=m*2^d) (k:=53) (Nat.mul_ne_zero h0 (Nat.ne_of_gt (Nat.two_pow_pos d)))).1 (by rw[gK m d h0];omega);simpa using this
   refine⟨(e+1)*4503599627370496+(m*2^d-4503599627370496),by omega,?_⟩;have hE:E ((e+1)*4503599627370496+(m*2^d-4503599627370496))=e:=by unfold E;rw[if_neg (by omega)];omega
   have hMM:M ((e+1)*4503599627370496+(m*2^d-4503599627370496))=m*2^d:=by unfold M;rw[if_neg (by omega)];omega
   rw[Nv,hE,hMM,hj,Nat.pow_add,Nat.mul_assoc]
def Zv(w:Nat):Int:=if sg w then -(Nv (rg w):Int)else(Nv (rg w):Int)
def fin(w:Nat):Prop:=rg w<9218868437227405312
theorem rW(a b:Int)(c:Int)(hc:0<c):compare (a*c) (b*c)=compare a b:=by
 rcases Int.lt_trichotomy a b with h|h|h
 ·rw[Int.compare_eq_lt.2 h,Int.compare_eq_lt.2 (Int.mul_lt_mul_of_pos_right h hc)]
 ·subst h;rw[Int.compare_eq_eq.2 rfl,Int.compare_eq_eq.2 rfl]
 ·rw[Int.compare_eq_gt.2 h,Int.compare_eq_gt.2 (Int.mul_lt_mul_of_pos_right h hc)]
theorem wJ(s:Bool)(m d b:Nat):signed s m d*(2^b:Nat)=if s then -((m*2^(d+b):Nat):Int)else((m*2^(d+b):Nat):Int):=by
 unfold signed;rw[Nat.shiftLeft_eq,Nat.pow_add,←Nat.mul_assoc];cases s
 ·simp
 ·simp[Int.neg_mul]
theorem lu{x y:Nat}(hx:fin x)(hy:fin y):double.order x y=some (compare (Zv x) (Zv y)):=by
 unfold Format.order;rw[qb hx,qb hy];simp only[Datum.order];congr 1;obtain⟨b,hb⟩:∃b,b=min (E (rg x)) (E (rg y)):=⟨_,rfl⟩;have h1:(-1074+(E (rg x):Int)-min (-1074+(E (rg x):Int)) (-1074+(E (rg y):Int))).toNat=E (rg x)-b:=by omega
 have h2:(-1074+(E (rg y):Int)-min (-1074+(E (rg x):Int)) (-1074+(E (rg y):Int))).toNat=E (rg y)-b:=by omega
 rw[h1,h2,←rW _ _ (2^b:Nat) (by exact_mod_cast Nat.two_pow_pos b),wJ,wJ,show E (rg x)-b+b=E (rg x) by omega,show E (rg y)-b+b=E (rg y) by omega];rfl
theorem BP(neg:Bool){r:Nat}(h:r<9218868437227405312):fin (double.word neg r):=by
 unfold fin;rw[FM neg r (by omega)];exact h
theorem U5{r:Nat}(h:r<9218868437227405312):Zv (double.word false r)=Nv r:=by
 unfold Zv;rw[Nf false r (by omega),FM false r (by omega)];rfl
theorem sH(neg:Bool){r:Nat}(h:r<9218868437227405312):double.read (double.word neg r)=.number neg (M r) (-1074+(E r:Int)):=by
 rw[qb (BP neg h),Nf neg r (by omega),FM neg r (by omega)]
theorem I7:double.read 4611686018427387904=.number false 4503599627370496 (-51):=by decide
theorem mul_two{r q:Nat}(hr:r<9218868437227405312)(hq:q<9218868437227405312)(h:Nv q=2*Nv r):double.mul (double.word false r) 4611686018427387904=some (double.word false q):=by
 unfold Format.mul;rw[sH false hr,I7];simp only[Datum.product,Option.map_some,Format.write];congr 1;refine u6 _ q hq _ _ 51 (by omega) ?_;have e:(-1074+(E r:Int)+ -51+1074+(51:Nat)).toNat=E r:=by omega
 rw[e,h];unfold Nv;rw[Nat.mul_right_comm,Nat.mul_comm 2 (M r*2^E r),Nat.mul_assoc (M r*2^E r)]
theorem Yw{r q:Nat}(hr:r<9218868437227405312)(hq:q<9218868437227405312)(h:Nv r=2*Nv q):double.div (double.word false r) 4611686018427387904=some (double.word false q):=by
 unfold Format.div;rw[sH false hr,I7];simp only[Datum.quotient];rw[if_neg (by decide)];simp only[Option.map_some,Format.write];congr 1;have hl:(4503599627370496:Nat).log2=52:=by decide
 have hm:(M r).log2≤52:=by
  by_cases h0:M r=0
  ·rw[h0];decide
  ·have:=(Nat.log2_lt (k:=53) h0).2 (by simpa using FL r);omega
 obtain⟨k,hk⟩:∃k,double.fractionBits+2+(4503599627370496:Nat).log2-(M r).log2=k+52:=⟨54-(M r).log2,by rw[hl];show 52+2+52-_=_;omega⟩;have adk:k≤54:=by rw[hl]at hk;have:double.fractionBits=52:=rfl;omega
 rw[hk,Nat.shiftLeft_eq];have hdiv:M r*2^(k+52) / 4503599627370496=M r*2^k:=by
  rw[Nat.pow_add,←Nat.mul_assoc];exact Nat.mul_div_cancel _ (by omega)
 have FC:M r*2^(k+52)%4503599627370496=0:=by
  rw[Nat.pow_add,←Nat.mul_assoc];exact Nat.mul_mod_left _ _
 rw[hdiv,FC];refine u6 _ q hq _ _ (k+3) (by omega) ?_;have e:(-1074+(E r:Int)- -51-((k+52:Nat):Int)-1+1074+((k+3:Nat):Int)).toNat=E r+1:=by omega
 rw[e];have h':M r*2^E r=2*Nv q:=h;have e2:(2*(M r*2^k)+((0:Nat) != 0).toNat)*2^(E r+1)=(M r*2^E r)*2^(k+2):=by
  simp only[bne_self_eq_false,Bool.toNat_false,Nat.add_zero,Nat.pow_add];have:(2:Nat)^1=2:=rfl;have h4:(2:Nat)^2=4:=rfl;rw[this,h4];generalize 2^k=a;generalize 2^E r=c;rw[show 2*(M r*a)*(c*2)=(M r*c)*(a*4) by
   have:2*(M r*a)*(c*2)=(M r*a*c)*4:=by
    rw[Nat.mul_assoc 2,Nat.mul_comm c 2,←Nat.mul_assoc (M r*a) 2 c,Nat.mul_comm (M r*a) 2,Nat.mul_assoc 2 (M r*a) c,←Nat.mul_assoc 2 2,Nat.mul_comm (2*2)]
   rw[this,Nat.mul_assoc (M r),Nat.mul_comm a c,←Nat.mul_assoc (M r),Nat.mul_assoc (M r*c)]]
 rw[e2,h',Nat.pow_succ 2 (k+2),Nat.mul_comm 2 (Nv q),Nat.mul_assoc,Nat.mul_comm 2 (2^(k+2))]
end Go.Proofs.YtdokeddjcpnmiaaGreatDoor.Fl
namespace Go.Proofs.YtdokeddjcpnmiaaGreatDoor.Fl
open Ieee
theorem I9(n:Nat)(h:n≠0):n<2^(n.log2+1):=(Nat.log2_lt h).1 (Nat.lt_succ_self _)
theorem Nl(n d:Nat):n / (1<<<min d (n.log2+2))=n / 2^d:=by
 rw[Nat.one_shiftLeft];by_cases hd:d≤n.log2+2
 ·rw[Nat.min_eq_left hd]
 ·rw[Nat.min_eq_right (by omega)];by_cases h0:n=0
  ·subst h0;simp
  ·have h1:=I9 n h0;have h2:(2:Nat)^(n.log2+1)≤2^(n.log2+2):=Nat.pow_le_pow_right (by omega) (by omega);have h3:(2:Nat)^(n.log2+1)≤2^d:=Nat.pow_le_pow_right (by omega) (by omega);rw[Nat.div_eq_of_lt (by omega),Nat.div_eq_of_lt (by omega)]
theorem U9(n d:Nat):Toward.down.cut false n d=n / 2^d:=by
 unfold Toward.cut;simp only[Nl,Bool.false_and,Bool.toNat_false,Nat.add_zero]
theorem YD(neg:Bool)(n d:Nat):Toward.zero.cut neg n d=n / 2^d:=by
 unfold Toward.cut;simp only[Nl,Bool.toNat_false,Nat.add_zero]
@[irreducible] def B : Nat := 1074
theorem Ja:B=1074:=by unfold B;rfl
@[irreducible] def U : Nat := 2 ^ B
theorem zB:U=2^B:=by unfold U;rfl
theorem Jb:0<U:=by rw[zB];exact Nat.two_pow_pos _
def Iv(r:Nat):Nat:=Nv r / U
theorem BR(m e B:Nat):(m<<<((-(B:Int)+(e:Int)).toNat)) / 2^(-(-(B:Int)+(e:Int))).toNat=m*2^e / 2^B:=by
 rw[Nat.shiftLeft_eq];by_cases h:B≤e
 ·obtain⟨k,hk⟩:∃k,e=B+k:=⟨e-B,by omega⟩;subst hk;have e1:(-(B:Int)+((B+k:Nat):Int)).toNat=k:=by omega
  have e2:(-(-(B:Int)+((B+k:Nat):Int))).toNat=0:=by omega
  rw[e1,e2,Nat.pow_zero,Nat.div_one,Nat.pow_add,Nat.mul_comm (2^B),←Nat.mul_assoc,Nat.mul_div_cancel _ (Nat.two_pow_pos B)]
 ·obtain⟨k,hk⟩:∃k,B=k+e:=⟨B-e,by omega⟩;subst hk;have e1:(-((k+e:Nat):Int)+(e:Int)).toNat=0:=by omega
  have e2:(-(-((k+e:Nat):Int)+(e:Int))).toNat=k:=by omega
  rw[e1,e2,Nat.pow_zero,Nat.mul_one,Nat.pow_add];exact(Nat.mul_div_mul_right _ _ (Nat.two_pow_pos e)).symm
theorem Dn{r:Nat}(hr:r<9218868437227405312):(double.read (double.word false r)).integral .down=.number false (Iv r) 0:=by
 rw[sH false hr];simp only[Datum.integral,U9];congr 1;rw[Iv,zB,Nv,←BR,Ja];rfl
theorem Em{w:Nat}(h:fin w):(double.read w).toInt .zero=some (if sg w then -(Iv (rg w):Int)else(Iv (rg w):Int)):=by
 rw[qb h];simp only[Datum.toInt,Datum.integral,YD];rw[show(M (rg w)<<<((-1074+(E (rg w):Int)).toNat)) / 2^(-(-1074+(E (rg w):Int))).toNat=Iv (rg w) by rw[Iv,zB,Nv,←BR,Ja];rfl];unfold signed;rw[Nat.shiftLeft_zero]
theorem xd{r:Nat}(h:r<9218868437227405312):E r≤2045:=by unfold E;split<;>omega
theorem Va(r:Nat):M r=0∨(M r).log2≤52:=by
 by_cases h0:M r=0
 ·exact .inl h0
 ·exact .inr (by have:=(Nat.log2_lt (k:=53) h0).2 (by simpa using FL r);omega)
theorem Vb{r:Nat}(h:B≤E r):Nv r%U=0:=by
 unfold Nv;obtain⟨k,hk⟩:∃k,E r=B+k:=⟨E r-B,by omega⟩;rw[hk,zB,Nat.pow_add,Nat.mul_comm (2^B),←Nat.mul_assoc,Nat.mul_mod_left]
theorem Nn{r:Nat}(h:Nv r%U≠0):E r<B:=by
 rcases Nat.lt_or_ge (E r) B with h1|h1
 ·exact h1
 ·exact absurd (Vb h1) h
theorem Vd{r:Nat}(h:E r<B):Iv r<9007199254740992:=by
 unfold Iv Nv;rw[zB,Nat.div_lt_iff_lt_mul (Nat.two_pow_pos _)];calc M r*2^E r<9007199254740992*2^E r:=Nat.mul_lt_mul_of_pos_right (FL r) (Nat.two_pow_pos _)
  _≤9007199254740992*2^B:=Nat.mul_le_mul_left _ (Nat.pow_le_pow_right (by omega) (by omega))
theorem Jc(a b:Nat)(h:a%b=0):a / b*b=a:=by
 have:=Nat.div_add_mod a b;rw[h,Nat.add_zero,Nat.mul_comm]at this;exact this
theorem Qh(k:Nat)(hk:k<9007199254740992):∃q,q<9218868437227405312∧Nv q=k*U:=by
 rw[zB];refine FN k B hk ?_;by_cases h0:k=0
 ·exact .inl h0
 ·have:k.log2<53:=(Nat.log2_lt h0).2 (by simpa using hk);exact .inr (by rw[Ja];omega)
theorem Ls{r:Nat}(hr:r<9218868437227405312):∃q,q<9218868437227405312∧Nv q=Iv r*U:=by
 by_cases h:Nv r%U=0
 ·exact⟨r,hr,(Jc _ _ h).symm⟩
 ·exact Qh _ (Vd (Nn h))
theorem Lu(neg:Bool){k q:Nat}(hq:q<9218868437227405312)(h:Nv q=k*U):double.write (.number neg k 0)=double.word neg q:=by
 simp only[Format.write];refine u6 neg q hq k 0 0 (by omega) ?_;rw[h,Nat.pow_zero,Nat.mul_one,zB,show((0:Int)+1074+(0:Nat)).toNat=B by rw[Ja];rfl]
theorem Lv{r:Nat}(hr:r<9218868437227405312):∃q,q<9218868437227405312∧Nv q=Iv r*U∧double.write ((double.read (double.word false r)).integral .down)=double.word false q:=by
 obtain⟨q,hq,hv⟩:=Ls hr;exact⟨q,hq,hv,by rw[Dn hr,Lu false hq hv]⟩
theorem Jd{r:Nat}(h:E r<2045):∃q,q<9218868437227405312∧Nv q=2*Nv r:=by
 obtain⟨q,hq,hv⟩:=FN (M r) (E r+1) (FL r) (by rcases Va r with h1|h1;exact .inl h1;exact .inr (by omega));exact⟨q,hq,by rw[hv,Nv,Nat.pow_succ,←Nat.mul_assoc,Nat.mul_comm]⟩
theorem Qi{r:Nat}(hr:r<9218868437227405312)(h:0<E r):∃q,q<9218868437227405312∧Nv r=2*Nv q:=by
 have:=xd hr;obtain⟨q,hq,hv⟩:=FN (M r) (E r-1) (FL r) (by rcases Va r with h1|h1;exact .inl h1;exact .inr (by omega));refine⟨q,hq,?_⟩;obtain⟨k,hk⟩:∃k,E r=k+1:=⟨E r-1,by omega⟩;rw[hv,Nv,hk,Nat.pow_succ,←Nat.mul_assoc,Nat.mul_comm,Nat.add_sub_cancel]
theorem xe{r j:Nat}(h:2^(53+j)≤Nv r):j<E r:=by
 rcases Nat.lt_or_ge j (E r)with h1|h1
 ·exact h1
 ·have h2:Nv r<2^(53+j):=by
   unfold Nv;calc M r*2^E r<9007199254740992*2^E r:=Nat.mul_lt_mul_of_pos_right (FL r) (Nat.two_pow_pos _)
    _≤9007199254740992*2^j:=Nat.mul_le_mul_left _ (Nat.pow_le_pow_right (by omega) h1)
    _=2^(53+j):=by rw[Nat.pow_add]
  omega
theorem tL{r q:Nat}(hr:r<9218868437227405312)(hq:q<9218868437227405312):double.order (double.word false r) (double.word false q)=some (compare (Nv r) (Nv q)):=by
 rw[lu (BP false hr) (BP false hq),U5 hr,U5 hq];congr 1;rcases Nat.lt_trichotomy (Nv r) (Nv q)with h|h|h
 ·rw[Int.compare_eq_lt.2 (by exact_mod_cast h),Nat.compare_eq_lt.2 h]
 ·rw[h,Int.compare_eq_eq.2 rfl,Nat.compare_eq_eq.2 rfl]
 ·rw[Int.compare_eq_gt.2 (by exact_mod_cast h),Nat.compare_eq_gt.2 h]
theorem iY(r:Nat):double.word false r=r:=by simp[Format.word]
theorem yj{x y:Nat}(h:9218868437227405312<rg x∨9218868437227405312<rg y):double.order x y=none:=by
 unfold Format.order;rcases h with h|h
 ·rw[qd h];rfl
 ·rw[qd h];cases double.read x<;>rfl
end Go.Proofs.YtdokeddjcpnmiaaGreatDoor.Fl
namespace Go.Proofs.YtdokeddjcpnmiaaGreatDoor.Fl
open Ieee
theorem Qj(w:Nat):(Zv w).natAbs=Nv (rg w):=by
 unfold Zv;split<;>omega
end Go.Proofs.YtdokeddjcpnmiaaGreatDoor.Fl
