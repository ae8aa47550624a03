/- Of any text: the program's descriptors and the reference's are read and written alike (DescParses). No condition. -/
import Derived.Shelf.Strings.Builder1
import Derived.Shelf.Strings.Builder2
import Derived.Shelf.Strings.OnBuilder
import Derived.Shelf.Small.Strs
import Derived.Shelf.Small.Wraps
import Derived.Shelf.Strings.BuilderF
import Derived.Shelf.Strings.BuilderK
import Derived.Shelf.Utf8.RuneCount
import Derived.Shelf.Strings.Builder2Cap
import Derived.Shelf.Strconv.Atoi
import Derived.Shelf.Strconv.Itoa0
import Derived.Shelf.Strconv.Itoa1
import Derived.Shelf.LaysM
import Derived.Shelf.Strconv.Itoa2
import Derived.Shelf.Strconv.Itoa3
import Derived.Shelf.Strconv.AtoiErrFast
import Derived.Shelf.Strconv.ParseIntEmpty
import Derived.Shelf.Strconv.AtoiFail
import Derived.Shelf.Strconv.Clone
import Derived.Shelf.Strconv.SyntaxError
import Derived.Shelf.LaysC
import Derived.Shelf.Strconv.ToError
import Derived.Shelf.Strconv.AtoiErr
import Derived.Shelf.Strconv.ErrVar
import Derived.Shelf.Strconv.Lower
import Derived.Shelf.Strconv.ParseUint10
import Derived.Shelf.Strconv.ParseUint10Empty
import Derived.Shelf.Strconv.ParseUint10Any
import Derived.Shelf.Strconv.ParseInt10
import Derived.Shelf.Strconv.AtoiLong
import Derived.Shelf.Strconv.AtoiInnerAll
import Derived.Shelf.Strconv.RangeError
import Derived.Shelf.Strconv.ToErrorRange
import Derived.Shelf.Strconv.AtoiAll
import Derived.Shelf.Strconv.ErrVarAll
import Derived.Shelf.Strconv.ParseUintEmpty
import Derived.Shelf.Strconv.ParseUint10b64
import Derived.Shelf.Strconv.ParseUint10b32
import Derived.Shelf.Strconv.ParseUint10b16
import Derived.Shelf.Strconv.ParseUint10b8
import Derived.Shelf.Strconv.ParseUint10At
import Derived.Shelf.Strconv.ParseInt10At64
import Derived.Shelf.Strconv.ParseInt10At32
import Derived.Shelf.Strconv.ParseInt10At16
import Derived.Shelf.Strconv.ParseInt10At8
import Derived.Shelf.Strconv.ParseInt10All
import Derived.Shelf.Strings.Search1
import Derived.Shelf.Strings.Search2
import Derived.Shelf.Strings.Search3
import Derived.Shelf.Strings.Cut
import Derived.Shelf.Strings.Count
import Derived.Shelf.Strings.Shaped
import Derived.Shelf.Strings.Prefix
import Derived.Shelf.Strings.Split
import Derived.Shelf.Strings.SplitShaped
import Derived.Shelf.Unicode.Decode
import Derived.Shelf.Strings.RuneCount
import Derived.Shelf.Strings.Explode
import Derived.Shelf.Bits.Mul64
import Derived.Shelf.Unicode.DecodeSlow
import Derived.Shelf.Unicode.DecodeAny
import Derived.Shelf.Strings.BuilderCap
import Derived.Shelf.Slices.Turned
import Derived.Ground.Names2Prog
import Derived.Shelf.Slices.Clone
import Derived.Shelf.Bytes.SlSearch0
import Derived.Shelf.Bytes.SlEqualAll
import Derived.Shelf.Bytes.Small
import Derived.Test.YtcjioogololnoaaGreatDoorProg
set_option linter.unusedVariables false
set_option linter.unusedSimpArgs false
set_option linter.unusedVariables false
set_option linter.unusedSimpArgs false
namespace Go.Proofs
open Go.Shelf
def Tryz.lays169_ren:Go.Shelf.Ren:=⟨fun|169=>53|n=>n,fun|70=>100|9=>9|0=>0|72=>102|37=>37|127=>133|3=>3|5=>5|n=>n,fun|n=>n⟩
theorem Tryz.lays169:Go.Proofs.Lays.n169 Tryz.prog Tryz.lays169_ren:={
 mixed:=by kernel_rfl
 f169:=Tryz.func53.trans (congrArg some (by kernel_rfl))
 t0:=Tryz.underlying0
 a0:=Tryz.isAgg0
 z0:=Tryz.sizeOf0
 v0:=Tryz.zeroValue0
 t3:=Tryz.underlying3
 a3:=Tryz.isAgg3
 z3:=Tryz.sizeOf3
 v3:=Tryz.zeroValue3
 t9:=Tryz.underlying9
 a9:=Tryz.isAgg9
 z9:=Tryz.sizeOf9
 v9:=Tryz.zeroValue9
 t37:=Tryz.underlying37
 a37:=Tryz.isAgg37
 z37:=Tryz.sizeOf37
 v37:=Tryz.zeroValue37
 t70:=Tryz.underlying100
 a70:=Tryz.isAgg100
 z70:=Tryz.sizeOf100
 v70:=Tryz.zeroValue100
 t72:=Tryz.underlying102
 a72:=Tryz.isAgg102
 z72:=Tryz.sizeOf102
 v72:=Tryz.zeroValue102
 t127:=Tryz.underlying133
 a127:=Tryz.isAgg133
 z127:=Tryz.sizeOf133
 v127:=Tryz.zeroValue133 }
theorem Tryz.Builder_Extra_169:Builder.Extra Tryz.prog Tryz.lays169_ren:={
 sizeBuilder:=by kernel_rfl
 liesBuilder:=by kernel_rfl
 t5:=Tryz.underlying5
 a5:=Tryz.isAgg5
 z5:=Tryz.sizeOf5
 v5:=Tryz.zeroValue5
 infoByte:=by kernel_rfl
 cellsByte:=by kernel_rfl
 sizeByte:=by kernel_rfl
 neB5:=by decide }
open Go.RowKit in
theorem Tryz.Builder_String_any (B b:Nat) (l:List UInt8) (w:World) (h:Lib.IsBuilder 102 5 B b (Lib.byteCells l) w) (hBw:B≤w.heap.size):
 Calls Tryz.prog 53 #[.pointer (some ⟨b,0,none⟩)] w fun e w'=>e=.returned (.string ⟨l.toArray⟩)∧Below B w w':=Any.Builder_String_any Tryz.lays169 Tryz.Builder_Extra_169 B b l w h hBw
def Tryz.lays156_ren:Go.Shelf.Ren:=⟨fun|156=>22|165=>51|166=>52|169=>53|240=>83|241=>84|276=>126|277=>127|n=>n,fun|31=>45|9=>9|3=>3|4=>4|0=>0|20=>20|72=>102|76=>91|70=>100|37=>37|75=>90|127=>133|164=>170|5=>5|80=>33|n=>n,fun|n=>n⟩
theorem Tryz.lays156:Go.Proofs.Lays.n156 Tryz.prog Tryz.lays156_ren:={
 mixed:=by kernel_rfl
 f156:=Tryz.func22.trans (congrArg some (by kernel_rfl))
 f165:=Tryz.func51.trans (congrArg some (by kernel_rfl))
 f166:=Tryz.func52.trans (congrArg some (by kernel_rfl))
 f169:=Tryz.func53.trans (congrArg some (by kernel_rfl))
 f240:=Tryz.func83.trans (congrArg some (by kernel_rfl))
 f241:=Tryz.func84.trans (congrArg some (by kernel_rfl))
 f276:=Tryz.func126.trans (congrArg some (by kernel_rfl))
 f277:=Tryz.func127.trans (congrArg some (by kernel_rfl))
 t0:=Tryz.underlying0
 a0:=Tryz.isAgg0
 z0:=Tryz.sizeOf0
 v0:=Tryz.zeroValue0
 t3:=Tryz.underlying3
 a3:=Tryz.isAgg3
 z3:=Tryz.sizeOf3
 v3:=Tryz.zeroValue3
 t4:=Tryz.underlying4
 a4:=Tryz.isAgg4
 z4:=Tryz.sizeOf4
 v4:=Tryz.zeroValue4
 t9:=Tryz.underlying9
 a9:=Tryz.isAgg9
 z9:=Tryz.sizeOf9
 v9:=Tryz.zeroValue9
 t20:=Tryz.underlying20
 a20:=Tryz.isAgg20
 z20:=Tryz.sizeOf20
 v20:=Tryz.zeroValue20
 t31:=Tryz.underlying45
 a31:=Tryz.isAgg45
 z31:=Tryz.sizeOf45
 v31:=Tryz.zeroValue45
 t37:=Tryz.underlying37
 a37:=Tryz.isAgg37
 z37:=Tryz.sizeOf37
 v37:=Tryz.zeroValue37
 t70:=Tryz.underlying100
 a70:=Tryz.isAgg100
 z70:=Tryz.sizeOf100
 v70:=Tryz.zeroValue100
 t72:=Tryz.underlying102
 a72:=Tryz.isAgg102
 z72:=Tryz.sizeOf102
 v72:=Tryz.zeroValue102
 t75:=Tryz.underlying90
 a75:=Tryz.isAgg90
 z75:=Tryz.sizeOf90
 v75:=Tryz.zeroValue90
 t76:=Tryz.underlying91
 a76:=Tryz.isAgg91
 z76:=Tryz.sizeOf91
 v76:=Tryz.zeroValue91
 t127:=Tryz.underlying133
 a127:=Tryz.isAgg133
 z127:=Tryz.sizeOf133
 v127:=Tryz.zeroValue133
 t164:=Tryz.underlying170
 a164:=Tryz.isAgg170
 z164:=Tryz.sizeOf170
 v164:=Tryz.zeroValue170 }
theorem Tryz.Builder_Extra_156:Builder.Extra Tryz.prog Tryz.lays156_ren:={
 sizeBuilder:=by kernel_rfl
 liesBuilder:=by kernel_rfl
 t5:=Tryz.underlying5
 a5:=Tryz.isAgg5
 z5:=Tryz.sizeOf5
 v5:=Tryz.zeroValue5
 infoByte:=by kernel_rfl
 cellsByte:=by kernel_rfl
 sizeByte:=by kernel_rfl
 neB5:=by decide }
open Go.RowKit in
theorem Tryz.strings_Join_none (a:Option Addr) (c:Nat) (sep:ByteArray) (w:World):
 Calls Tryz.prog 22 #[.slice a 0 c,.string sep] w fun e w'=>e=.returned (.string ⟨#[]⟩)∧w'=w:=Any.strings_Join_none Tryz.lays156 Tryz.Builder_Extra_156 a c sep w
open Go.RowKit in
theorem Tryz.strings_Join (bk o c:Nat) (xs:List ByteArray) (sep:ByteArray) (w:World) (hcells:∀(j:Nat) x,xs[j]?=some x→w.cell? ⟨bk,o+j,none⟩=some (.string x)) (hbk:bk<w.heap.size) (hN:xs.length≤140737488355328) (hcap:xs.length≤c) (hlen:(Lib.join (xs.map (·.data.toList)) sep.data.toList).length≤140737488355328):
 Calls Tryz.prog 22 #[.slice (some ⟨bk,o,none⟩) xs.length c,.string sep] w fun e w'=>e=.returned (.string ⟨(Lib.join (xs.map (·.data.toList)) sep.data.toList).toArray⟩)∧Below w.heap.size w w':=Any.strings_Join Tryz.lays156 Tryz.Builder_Extra_156 bk o c xs sep w hcells hbk hN hcap hlen
def Tryz.lays137_ren:Go.Shelf.Ren:=⟨fun|137=>32|217=>61|266=>93|n=>n,fun|9=>9|5=>5|3=>3|n=>n,fun|n=>n⟩
theorem Tryz.lays137:Go.Proofs.Lays.n137 Tryz.prog Tryz.lays137_ren:={
 mixed:=by kernel_rfl
 f137:=Tryz.func32.trans (congrArg some (by kernel_rfl))
 f217:=Tryz.func61.trans (congrArg some (by kernel_rfl))
 f266:=Tryz.func93.trans (congrArg some (by kernel_rfl))
 t3:=Tryz.underlying3
 a3:=Tryz.isAgg3
 z3:=Tryz.sizeOf3
 v3:=Tryz.zeroValue3
 t5:=Tryz.underlying5
 a5:=Tryz.isAgg5
 z5:=Tryz.sizeOf5
 v5:=Tryz.zeroValue5
 t9:=Tryz.underlying9
 a9:=Tryz.isAgg9
 z9:=Tryz.sizeOf9
 v9:=Tryz.zeroValue9 }
open Go.RowKit in
theorem Tryz.strings_IndexByte (s:ByteArray) (c:Int) (w:World):
 Calls Tryz.prog 32 #[.string s,.int .u8 c] w fun e w'=>e=.returned (.int .i64 (Lib.indexByte s.data.toList c.toNat.toUInt8))∧w'=w:=Any.strings_IndexByte Tryz.lays137 s c w
def Tryz.lays210_ren:Go.Shelf.Ren:=⟨fun|210=>94|206=>124|n=>n,fun|9=>9|4=>4|3=>3|n=>n,fun|n=>n⟩
def Tryz.lays103_ren:Go.Shelf.Ren:=⟨fun|103=>63|210=>94|206=>124|n=>n,fun|9=>9|4=>4|24=>50|3=>3|n=>n,fun|n=>n⟩
theorem Tryz.lays103:Go.Proofs.Lays.n103 Tryz.prog Tryz.lays103_ren:={
 mixed:=by kernel_rfl
 f103:=Tryz.func63.trans (congrArg some (by kernel_rfl))
 f206:=Tryz.func124.trans (congrArg some (by kernel_rfl))
 f210:=Tryz.func94.trans (congrArg some (by kernel_rfl))
 t3:=Tryz.underlying3
 a3:=Tryz.isAgg3
 z3:=Tryz.sizeOf3
 v3:=Tryz.zeroValue3
 t4:=Tryz.underlying4
 a4:=Tryz.isAgg4
 z4:=Tryz.sizeOf4
 v4:=Tryz.zeroValue4
 t9:=Tryz.underlying9
 a9:=Tryz.isAgg9
 z9:=Tryz.sizeOf9
 v9:=Tryz.zeroValue9
 t24:=Tryz.underlying50
 a24:=Tryz.isAgg50
 z24:=Tryz.sizeOf50
 v24:=Tryz.zeroValue50 }
open Go.RowKit in
theorem Tryz.strings_CutPrefix (s p:ByteArray) (w:World):
 Calls Tryz.prog 63 #[.string s,.string p] w fun e w'=>e=.returned (.tuple #[.string ⟨(Lib.trimPrefix s.data.toList p.data.toList).toArray⟩,.bool (Lib.hasPrefix s.data.toList p.data.toList)])∧w'=w:=Any.strings_CutPrefix Tryz.lays103 s p w
def Tryz.lays104_ren:Go.Shelf.Ren:=⟨fun|104=>64|211=>95|207=>135|n=>n,fun|9=>9|4=>4|24=>50|3=>3|n=>n,fun|n=>n⟩
theorem Tryz.lays104:Go.Proofs.Lays.n104 Tryz.prog Tryz.lays104_ren:={
 mixed:=by kernel_rfl
 f104:=Tryz.func64.trans (congrArg some (by kernel_rfl))
 f207:=Tryz.func135.trans (congrArg some (by kernel_rfl))
 f211:=Tryz.func95.trans (congrArg some (by kernel_rfl))
 t3:=Tryz.underlying3
 a3:=Tryz.isAgg3
 z3:=Tryz.sizeOf3
 v3:=Tryz.zeroValue3
 t4:=Tryz.underlying4
 a4:=Tryz.isAgg4
 z4:=Tryz.sizeOf4
 v4:=Tryz.zeroValue4
 t9:=Tryz.underlying9
 a9:=Tryz.isAgg9
 z9:=Tryz.sizeOf9
 v9:=Tryz.zeroValue9
 t24:=Tryz.underlying50
 a24:=Tryz.isAgg50
 z24:=Tryz.sizeOf50
 v24:=Tryz.zeroValue50 }
open Go.RowKit in
theorem Tryz.strings_CutSuffix (s p:ByteArray) (w:World) (hs:s.size≤9223372036854775807):
 Calls Tryz.prog 64 #[.string s,.string p] w fun e w'=>e=.returned (.tuple #[.string ⟨(Lib.trimSuffix s.data.toList p.data.toList).toArray⟩,.bool (Lib.hasSuffix s.data.toList p.data.toList)])∧w'=w:=Any.strings_CutSuffix Tryz.lays104 s p w hs
def Tryz.lays172_ren:Go.Shelf.Ren:=⟨fun|172=>41|244=>71|245=>72|247=>110|279=>111|280=>112|281=>113|282=>114|287=>151|316=>152|171=>24|205=>153|321=>183|322=>184|243=>54|246=>85|283=>128|284=>129|285=>130|286=>131|129=>168|317=>167|318=>169|319=>170|320=>171|337=>197|338=>198|n=>n,fun|9=>9|3=>3|75=>90|76=>91|4=>4|5=>5|167=>155|37=>37|0=>0|85=>156|2=>2|168=>158|53=>78|175=>199|46=>76|210=>202|127=>133|145=>234|143=>232|21=>21|171=>173|173=>176|212=>218|51=>55|20=>20|213=>219|232=>56|233=>266|80=>33|n=>n,fun|15=>1|16=>2|17=>3|18=>6|19=>7|n=>n⟩
def Tryz.lays283_ren:Go.Shelf.Ren:=⟨fun|283=>128|n=>n,fun|3=>3|9=>9|4=>4|n=>n,fun|n=>n⟩
theorem Tryz.lays283:Go.Proofs.Lays.n283 Tryz.prog Tryz.lays283_ren:={
 mixed:=by kernel_rfl
 f283:=Tryz.func128.trans (congrArg some (by kernel_rfl))
 t3:=Tryz.underlying3
 a3:=Tryz.isAgg3
 z3:=Tryz.sizeOf3
 v3:=Tryz.zeroValue3
 t4:=Tryz.underlying4
 a4:=Tryz.isAgg4
 z4:=Tryz.sizeOf4
 v4:=Tryz.zeroValue4
 t9:=Tryz.underlying9
 a9:=Tryz.isAgg9
 z9:=Tryz.sizeOf9
 v9:=Tryz.zeroValue9 }
open Go.Lib in
theorem Tryz.internal_strconv_small (i:Nat) (h:i<100) (w:World):
 Calls Tryz.prog 128 #[.int .i64 i] w fun e w'=>e=.returned (.string ⟨(Lib.decDigits i).toArray⟩)∧w'=w:=Any.internal_strconv_small Tryz.lays283 i h w
def Tryz.laysM284_ren:Go.Shelf.Ren:=⟨fun|284=>129|129=>168|317=>167|318=>169|n=>n,fun|53=>78|3=>3|212=>218|0=>0|4=>4|46=>76|5=>5|9=>9|n=>n,fun|17=>3|n=>n⟩
theorem Tryz.laysM284:Go.Proofs.LaysM.n284 Tryz.prog Tryz.laysM284_ren:={
 mixed:=by kernel_rfl
 f129:=Tryz.func168.trans (congrArg some (by kernel_rfl))
 f284:=Tryz.func129.trans (congrArg some (by kernel_rfl))
 f317:=Tryz.func167.trans (congrArg some (by kernel_rfl))
 f318:=Tryz.func169.trans (congrArg some (by kernel_rfl))
 t0:=Tryz.underlying0
 a0:=Tryz.isAgg0
 z0:=Tryz.sizeOf0
 v0:=Tryz.zeroValue0
 t3:=Tryz.underlying3
 a3:=Tryz.isAgg3
 z3:=Tryz.sizeOf3
 v3:=Tryz.zeroValue3
 t4:=Tryz.underlying4
 a4:=Tryz.isAgg4
 z4:=Tryz.sizeOf4
 v4:=Tryz.zeroValue4
 t5:=Tryz.underlying5
 a5:=Tryz.isAgg5
 z5:=Tryz.sizeOf5
 v5:=Tryz.zeroValue5
 t9:=Tryz.underlying9
 a9:=Tryz.isAgg9
 z9:=Tryz.sizeOf9
 v9:=Tryz.zeroValue9
 t46:=Tryz.underlying76
 a46:=Tryz.isAgg76
 z46:=Tryz.sizeOf76
 v46:=Tryz.zeroValue76
 t53:=Tryz.underlying78
 a53:=Tryz.isAgg78
 z53:=Tryz.sizeOf78
 v53:=Tryz.zeroValue78
 t212:=Tryz.underlying218
 a212:=Tryz.isAgg218
 z212:=Tryz.sizeOf218
 v212:=Tryz.zeroValue218
 g17:=by kernel_rfl
 i0:=by kernel_rfl
 i3:=by kernel_rfl
 i4:=by kernel_rfl
 i5:=by kernel_rfl
 i9:=by kernel_rfl
 i46:=by kernel_rfl
 i53:=by kernel_rfl
 i212:=by kernel_rfl
 m17:=by kernel_rfl }
open Go.Lib in
theorem Tryz.internal_strconv_numDigits (u:Nat) (h1:1≤u) (h2:u<18446744073709551616) (w:World) (htab:Lib.TabIs Tryz.prog w "internal/strconv.uint64pow10" .u64 Lib.pow10Tab):
 Calls Tryz.prog 129 #[.int .u64 u] w fun e w'=>e=.returned (.int .i64 (Lib.nDigits u))∧w'=w:=Any.internal_strconv_numDigits Tryz.laysM284 u h1 h2 w htab
def Tryz.lays285_ren:Go.Shelf.Ren:=⟨fun|285=>130|n=>n,fun|37=>37|53=>78|3=>3|4=>4|51=>55|9=>9|5=>5|0=>0|n=>n,fun|n=>n⟩
theorem Tryz.lays285:Go.Proofs.Lays.n285 Tryz.prog Tryz.lays285_ren:={
 mixed:=by kernel_rfl
 f285:=Tryz.func130.trans (congrArg some (by kernel_rfl))
 t0:=Tryz.underlying0
 a0:=Tryz.isAgg0
 z0:=Tryz.sizeOf0
 v0:=Tryz.zeroValue0
 t3:=Tryz.underlying3
 a3:=Tryz.isAgg3
 z3:=Tryz.sizeOf3
 v3:=Tryz.zeroValue3
 t4:=Tryz.underlying4
 a4:=Tryz.isAgg4
 z4:=Tryz.sizeOf4
 v4:=Tryz.zeroValue4
 t5:=Tryz.underlying5
 a5:=Tryz.isAgg5
 z5:=Tryz.sizeOf5
 v5:=Tryz.zeroValue5
 t9:=Tryz.underlying9
 a9:=Tryz.isAgg9
 z9:=Tryz.sizeOf9
 v9:=Tryz.zeroValue9
 t37:=Tryz.underlying37
 a37:=Tryz.isAgg37
 z37:=Tryz.sizeOf37
 v37:=Tryz.zeroValue37
 t51:=Tryz.underlying55
 a51:=Tryz.isAgg55
 z51:=Tryz.sizeOf55
 v51:=Tryz.zeroValue55
 t53:=Tryz.underlying78
 a53:=Tryz.isAgg78
 z53:=Tryz.sizeOf78
 v53:=Tryz.zeroValue78 }
open Go.RowKit Go.Sort Go.Lib in
theorem Tryz.internal_strconv_formatBase10 (blk off cap:Nat) (u:Nat) (d:Array UInt8) (w:World) (hH:Holds (fun (b:UInt8)=>Value.int .u8 (b.toNat:Int)) w blk off d) (hu:u<10^d.size) (hu64:u<18446744073709551616) (hsz:d.size<4611686018427387904):
 Calls Tryz.prog 130 #[.slice (some ⟨blk,off,none⟩) d.size cap,.int .u64 u] w fun e w'=>
  e=.returned (.tuple #[])∧∃(n v':Nat) (dk:Array UInt8),w'=(putRow (fun (b:UInt8)=>Value.int .u8 (b.toNat:Int)) w blk off dk).drewN n∧FmtInv d.size u 0 v' dk:=Any.internal_strconv_formatBase10 Tryz.lays285 blk off cap u d w hH hu hu64 hsz
def Tryz.laysM246_ren:Go.Shelf.Ren:=⟨fun|246=>85|283=>128|284=>129|285=>130|286=>131|129=>168|317=>167|318=>169|319=>170|320=>171|337=>197|338=>198|n=>n,fun|2=>2|3=>3|9=>9|4=>4|171=>173|0=>0|53=>78|37=>37|5=>5|173=>176|212=>218|51=>55|20=>20|213=>219|46=>76|232=>56|233=>266|n=>n,fun|17=>3|18=>6|19=>7|n=>n⟩
def Tryz.laysM243_ren:Go.Shelf.Ren:=⟨fun|243=>54|246=>85|283=>128|284=>129|285=>130|286=>131|129=>168|317=>167|318=>169|319=>170|320=>171|337=>197|338=>198|n=>n,fun|3=>3|9=>9|2=>2|4=>4|171=>173|0=>0|53=>78|37=>37|5=>5|173=>176|212=>218|51=>55|20=>20|213=>219|46=>76|232=>56|233=>266|n=>n,fun|17=>3|18=>6|19=>7|n=>n⟩
def Tryz.laysM171_ren:Go.Shelf.Ren:=⟨fun|171=>24|243=>54|246=>85|283=>128|284=>129|285=>130|286=>131|129=>168|317=>167|318=>169|319=>170|320=>171|337=>197|338=>198|n=>n,fun|3=>3|9=>9|2=>2|4=>4|171=>173|0=>0|53=>78|37=>37|5=>5|173=>176|212=>218|51=>55|20=>20|213=>219|46=>76|232=>56|233=>266|n=>n,fun|17=>3|18=>6|19=>7|n=>n⟩
theorem Tryz.laysM171:Go.Proofs.LaysM.n171 Tryz.prog Tryz.laysM171_ren:={
 mixed:=by kernel_rfl
 f129:=Tryz.func168.trans (congrArg some (by kernel_rfl))
 f171:=Tryz.func24.trans (congrArg some (by kernel_rfl))
 f243:=Tryz.func54.trans (congrArg some (by kernel_rfl))
 f246:=Tryz.func85.trans (congrArg some (by kernel_rfl))
 f283:=Tryz.func128.trans (congrArg some (by kernel_rfl))
 f284:=Tryz.func129.trans (congrArg some (by kernel_rfl))
 f285:=Tryz.func130.trans (congrArg some (by kernel_rfl))
 f286:=Tryz.func131.trans (congrArg some (by kernel_rfl))
 f317:=Tryz.func167.trans (congrArg some (by kernel_rfl))
 f318:=Tryz.func169.trans (congrArg some (by kernel_rfl))
 f319:=Tryz.func170.trans (congrArg some (by kernel_rfl))
 f320:=Tryz.func171.trans (congrArg some (by kernel_rfl))
 f337:=Tryz.func197.trans (congrArg some (by kernel_rfl))
 f338:=Tryz.func198.trans (congrArg some (by kernel_rfl))
 t0:=Tryz.underlying0
 a0:=Tryz.isAgg0
 z0:=Tryz.sizeOf0
 v0:=Tryz.zeroValue0
 t2:=Tryz.underlying2
 a2:=Tryz.isAgg2
 z2:=Tryz.sizeOf2
 v2:=Tryz.zeroValue2
 t3:=Tryz.underlying3
 a3:=Tryz.isAgg3
 z3:=Tryz.sizeOf3
 v3:=Tryz.zeroValue3
 t4:=Tryz.underlying4
 a4:=Tryz.isAgg4
 z4:=Tryz.sizeOf4
 v4:=Tryz.zeroValue4
 t5:=Tryz.underlying5
 a5:=Tryz.isAgg5
 z5:=Tryz.sizeOf5
 v5:=Tryz.zeroValue5
 t9:=Tryz.underlying9
 a9:=Tryz.isAgg9
 z9:=Tryz.sizeOf9
 v9:=Tryz.zeroValue9
 t20:=Tryz.underlying20
 a20:=Tryz.isAgg20
 z20:=Tryz.sizeOf20
 v20:=Tryz.zeroValue20
 t37:=Tryz.underlying37
 a37:=Tryz.isAgg37
 z37:=Tryz.sizeOf37
 v37:=Tryz.zeroValue37
 t46:=Tryz.underlying76
 a46:=Tryz.isAgg76
 z46:=Tryz.sizeOf76
 v46:=Tryz.zeroValue76
 t51:=Tryz.underlying55
 a51:=Tryz.isAgg55
 z51:=Tryz.sizeOf55
 v51:=Tryz.zeroValue55
 t53:=Tryz.underlying78
 a53:=Tryz.isAgg78
 z53:=Tryz.sizeOf78
 v53:=Tryz.zeroValue78
 t171:=Tryz.underlying173
 a171:=Tryz.isAgg173
 z171:=Tryz.sizeOf173
 v171:=Tryz.zeroValue173
 t173:=Tryz.underlying176
 a173:=Tryz.isAgg176
 z173:=Tryz.sizeOf176
 v173:=Tryz.zeroValue176
 t212:=Tryz.underlying218
 a212:=Tryz.isAgg218
 z212:=Tryz.sizeOf218
 v212:=Tryz.zeroValue218
 t213:=Tryz.underlying219
 a213:=Tryz.isAgg219
 z213:=Tryz.sizeOf219
 t232:=Tryz.underlying56
 a232:=Tryz.isAgg56
 z232:=Tryz.sizeOf56
 v232:=Tryz.zeroValue56
 t233:=Tryz.underlying266
 a233:=Tryz.isAgg266
 z233:=Tryz.sizeOf266
 v233:=Tryz.zeroValue266
 g17:=by kernel_rfl
 g18:=by kernel_rfl
 g19:=by kernel_rfl
 i0:=by kernel_rfl
 i2:=by kernel_rfl
 i3:=by kernel_rfl
 i4:=by kernel_rfl
 i5:=by kernel_rfl
 i9:=by kernel_rfl
 i20:=by kernel_rfl
 i37:=by kernel_rfl
 i46:=by kernel_rfl
 i51:=by kernel_rfl
 i53:=by kernel_rfl
 i171:=by kernel_rfl
 i173:=by kernel_rfl
 i212:=by kernel_rfl
 i232:=by kernel_rfl
 i233:=by kernel_rfl
 m17:=by kernel_rfl
 m18:=by kernel_rfl
 m19:=by kernel_rfl }
open Go.RowKit Go.Sort Go.Lib in
theorem Tryz.strconv_Itoa (n:Int) (h0:-9223372036854775808≤n) (h1:n≤9223372036854775807) (w:World) (htab:Lib.TabIs Tryz.prog w "internal/strconv.uint64pow10" .u64 Lib.pow10Tab):
 Calls Tryz.prog 24 #[.int .i64 n] w fun e w'=>e=.returned (.string ⟨(Lib.itoa n).toArray⟩)∧∃k os,w'=grow (w.drewN k) os:=Any.strconv_Itoa Tryz.laysM171 n h0 h1 w htab
def Tryz.laysC172_ren:Go.Shelf.Ren:=⟨fun|172=>41|244=>71|245=>72|247=>110|279=>111|280=>112|281=>113|282=>114|287=>151|316=>152|171=>24|205=>153|321=>183|322=>184|243=>54|246=>85|283=>128|284=>129|285=>130|286=>131|129=>168|317=>167|318=>169|319=>170|320=>171|337=>197|338=>198|n=>n,fun|9=>9|3=>3|75=>90|76=>91|4=>4|5=>5|167=>155|37=>37|0=>0|85=>156|2=>2|168=>158|53=>78|175=>199|46=>76|210=>202|127=>133|145=>234|143=>232|21=>21|171=>173|173=>176|212=>218|51=>55|20=>20|213=>219|232=>56|233=>266|80=>33|n=>n,fun|15=>1|16=>2|17=>3|18=>6|19=>7|n=>n⟩
theorem Tryz.laysC172:Go.Proofs.LaysC.n172 Tryz.prog Tryz.laysC172_ren:={
 mixed:=by kernel_rfl
 f129:=Tryz.func168.trans (congrArg some (by kernel_rfl))
 f171:=Tryz.func24.trans (congrArg some (by kernel_rfl))
 f172:=Tryz.func41.trans (congrArg some (by kernel_rfl))
 f205:=Tryz.func153.trans (congrArg some (by kernel_rfl))
 f243:=Tryz.func54.trans (congrArg some (by kernel_rfl))
 f244:=Tryz.func71.trans (congrArg some (by kernel_rfl))
 f245:=Tryz.func72.trans (congrArg some (by kernel_rfl))
 f246:=Tryz.func85.trans (congrArg some (by kernel_rfl))
 f247:=Tryz.func110.trans (congrArg some (by kernel_rfl))
 f279:=Tryz.func111.trans (congrArg some (by kernel_rfl))
 f280:=Tryz.func112.trans (congrArg some (by kernel_rfl))
 f281:=Tryz.func113.trans (congrArg some (by kernel_rfl))
 f282:=Tryz.func114.trans (congrArg some (by kernel_rfl))
 f283:=Tryz.func128.trans (congrArg some (by kernel_rfl))
 f284:=Tryz.func129.trans (congrArg some (by kernel_rfl))
 f285:=Tryz.func130.trans (congrArg some (by kernel_rfl))
 f286:=Tryz.func131.trans (congrArg some (by kernel_rfl))
 f287:=Tryz.func151.trans (congrArg some (by kernel_rfl))
 f316:=Tryz.func152.trans (congrArg some (by kernel_rfl))
 f317:=Tryz.func167.trans (congrArg some (by kernel_rfl))
 f318:=Tryz.func169.trans (congrArg some (by kernel_rfl))
 f319:=Tryz.func170.trans (congrArg some (by kernel_rfl))
 f320:=Tryz.func171.trans (congrArg some (by kernel_rfl))
 f321:=Tryz.func183.trans (congrArg some (by kernel_rfl))
 f322:=Tryz.func184.trans (congrArg some (by kernel_rfl))
 f337:=Tryz.func197.trans (congrArg some (by kernel_rfl))
 f338:=Tryz.func198.trans (congrArg some (by kernel_rfl))
 t0:=Tryz.underlying0
 a0:=Tryz.isAgg0
 z0:=Tryz.sizeOf0
 v0:=Tryz.zeroValue0
 t2:=Tryz.underlying2
 a2:=Tryz.isAgg2
 z2:=Tryz.sizeOf2
 v2:=Tryz.zeroValue2
 t3:=Tryz.underlying3
 a3:=Tryz.isAgg3
 z3:=Tryz.sizeOf3
 v3:=Tryz.zeroValue3
 t4:=Tryz.underlying4
 a4:=Tryz.isAgg4
 z4:=Tryz.sizeOf4
 v4:=Tryz.zeroValue4
 t5:=Tryz.underlying5
 a5:=Tryz.isAgg5
 z5:=Tryz.sizeOf5
 v5:=Tryz.zeroValue5
 t9:=Tryz.underlying9
 a9:=Tryz.isAgg9
 z9:=Tryz.sizeOf9
 v9:=Tryz.zeroValue9
 t20:=Tryz.underlying20
 a20:=Tryz.isAgg20
 z20:=Tryz.sizeOf20
 v20:=Tryz.zeroValue20
 t21:=Tryz.underlying21
 a21:=Tryz.isAgg21
 z21:=Tryz.sizeOf21
 v21:=Tryz.zeroValue21
 t37:=Tryz.underlying37
 a37:=Tryz.isAgg37
 z37:=Tryz.sizeOf37
 v37:=Tryz.zeroValue37
 t46:=Tryz.underlying76
 a46:=Tryz.isAgg76
 z46:=Tryz.sizeOf76
 v46:=Tryz.zeroValue76
 t51:=Tryz.underlying55
 a51:=Tryz.isAgg55
 z51:=Tryz.sizeOf55
 v51:=Tryz.zeroValue55
 t53:=Tryz.underlying78
 a53:=Tryz.isAgg78
 z53:=Tryz.sizeOf78
 v53:=Tryz.zeroValue78
 t75:=Tryz.underlying90
 a75:=Tryz.isAgg90
 z75:=Tryz.sizeOf90
 v75:=Tryz.zeroValue90
 t76:=Tryz.underlying91
 a76:=Tryz.isAgg91
 z76:=Tryz.sizeOf91
 v76:=Tryz.zeroValue91
 t85:=Tryz.underlying156
 a85:=Tryz.isAgg156
 z85:=Tryz.sizeOf156
 v85:=Tryz.zeroValue156
 t127:=Tryz.underlying133
 a127:=Tryz.isAgg133
 z127:=Tryz.sizeOf133
 v127:=Tryz.zeroValue133
 t143:=Tryz.underlying232
 a143:=Tryz.isAgg232
 z143:=Tryz.sizeOf232
 v143:=Tryz.zeroValue232
 t145:=Tryz.underlying234
 a145:=Tryz.isAgg234
 z145:=Tryz.sizeOf234
 v145:=Tryz.zeroValue234
 t167:=Tryz.underlying155
 a167:=Tryz.isAgg155
 z167:=Tryz.sizeOf155
 v167:=Tryz.zeroValue155
 t168:=Tryz.underlying158
 a168:=Tryz.isAgg158
 z168:=Tryz.sizeOf158
 v168:=Tryz.zeroValue158
 t171:=Tryz.underlying173
 a171:=Tryz.isAgg173
 z171:=Tryz.sizeOf173
 v171:=Tryz.zeroValue173
 t173:=Tryz.underlying176
 a173:=Tryz.isAgg176
 z173:=Tryz.sizeOf176
 v173:=Tryz.zeroValue176
 t175:=Tryz.underlying199
 a175:=Tryz.isAgg199
 z175:=Tryz.sizeOf199
 v175:=Tryz.zeroValue199
 t210:=Tryz.underlying202
 a210:=Tryz.isAgg202
 z210:=Tryz.sizeOf202
 v210:=Tryz.zeroValue202
 t212:=Tryz.underlying218
 a212:=Tryz.isAgg218
 z212:=Tryz.sizeOf218
 v212:=Tryz.zeroValue218
 t213:=Tryz.underlying219
 a213:=Tryz.isAgg219
 z213:=Tryz.sizeOf219
 t232:=Tryz.underlying56
 a232:=Tryz.isAgg56
 z232:=Tryz.sizeOf56
 v232:=Tryz.zeroValue56
 t233:=Tryz.underlying266
 a233:=Tryz.isAgg266
 z233:=Tryz.sizeOf266
 v233:=Tryz.zeroValue266
 g15:=by kernel_rfl
 g16:=by kernel_rfl
 g17:=by kernel_rfl
 g18:=by kernel_rfl
 g19:=by kernel_rfl
 t80:=Tryz.underlying33
 a80:=Tryz.isAgg33
 z80:=Tryz.sizeOf33
 v80:=Tryz.zeroValue33
 i0:=by kernel_rfl
 i2:=by kernel_rfl
 i3:=by kernel_rfl
 i4:=by kernel_rfl
 i5:=by kernel_rfl
 i9:=by kernel_rfl
 i20:=by kernel_rfl
 i21:=by kernel_rfl
 i37:=by kernel_rfl
 i46:=by kernel_rfl
 i51:=by kernel_rfl
 i53:=by kernel_rfl
 i75:=by kernel_rfl
 i76:=by kernel_rfl
 i80:=by kernel_rfl
 i85:=by kernel_rfl
 i127:=by kernel_rfl
 i143:=by kernel_rfl
 i145:=by kernel_rfl
 i167:=by kernel_rfl
 i168:=by kernel_rfl
 i171:=by kernel_rfl
 i173:=by kernel_rfl
 i175:=by kernel_rfl
 i210:=by kernel_rfl
 i212:=by kernel_rfl
 i232:=by kernel_rfl
 i233:=by kernel_rfl
 m15:=by kernel_rfl
 m16:=by kernel_rfl
 m17:=by kernel_rfl
 m18:=by kernel_rfl
 m19:=by kernel_rfl
 c0:=by kernel_rfl
 c2:=by kernel_rfl
 c3:=by kernel_rfl
 c4:=by kernel_rfl
 c5:=by kernel_rfl
 c9:=by kernel_rfl
 c20:=by kernel_rfl
 c21:=by kernel_rfl
 c37:=by kernel_rfl
 c46:=by kernel_rfl
 c51:=by kernel_rfl
 c53:=by kernel_rfl
 c75:=by kernel_rfl
 c76:=by kernel_rfl
 c80:=by kernel_rfl
 c85:=by kernel_rfl
 c127:=by kernel_rfl
 c143:=by kernel_rfl
 c145:=by kernel_rfl
 c167:=by kernel_rfl
 c168:=by kernel_rfl
 c171:=by kernel_rfl
 c173:=by kernel_rfl
 c175:=by kernel_rfl
 c210:=by kernel_rfl
 c212:=by kernel_rfl
 c213:=by kernel_rfl
 c232:=by kernel_rfl
 c233:=by kernel_rfl }
open Go.RowKit in
theorem Tryz.strconv_Atoi_ok (s:ByteArray) (hmax:s.size≤9223372036854775806) (v:Int) (h:Lib.atoiAll s.data.toList=.ok v) (w:World):
 Calls Tryz.prog 41 #[.string s] w fun e w'=>e=.returned (.tuple #[.int .i64 v,.nilIface])∧(w'=w∨∃t,w'=Lib.bytesWorld w 5 t):=Any.strconv_Atoi_ok Tryz.laysC172 s hmax v h w
open Go.RowKit in
theorem Tryz.strconv_Atoi_range_var (s:ByteArray) (hlim:s.size≤281474976710656) (h:Lib.atoiAll s.data.toList=.range) (tp:TypeId) (p:Value) (w:World) (hvar:w.var? Tryz.prog "strconv.ErrRange"=some #[.iface tp p]):
 Calls Tryz.prog 41 #[.string s] w fun e w'=>∃N,e=.returned (.tuple #[.int .i64 (Lib.atoiSat s.data.toList),.iface 158 (.pointer (some ⟨N,0,none⟩))])∧w.heap.size≤N∧w'.heap[N]?=some (.cells #[.string ⟨#[65,116,111,105]⟩,.string s,.iface tp p] 202 (0,0))∧Below w.heap.size w w':=Any.strconv_Atoi_range_var Tryz.laysC172 s hlim h tp p w hvar
def Tryz.lays219_ren:Go.Shelf.Ren:=⟨fun|219=>60|217=>61|225=>90|224=>91|267=>92|266=>93|314=>134|n=>n,fun|9=>9|3=>3|4=>4|5=>5|46=>76|146=>179|51=>55|n=>n,fun|1=>0|n=>n⟩
def Tryz.lays144_ren:Go.Shelf.Ren:=⟨fun|144=>103|143=>109|219=>60|217=>61|225=>90|224=>91|267=>92|266=>93|314=>134|n=>n,fun|9=>9|4=>4|3=>3|5=>5|46=>76|146=>179|51=>55|n=>n,fun|1=>0|n=>n⟩
theorem Tryz.lays144:Go.Proofs.Lays.n144 Tryz.prog Tryz.lays144_ren:={
 mixed:=by kernel_rfl
 f143:=Tryz.func109.trans (congrArg some (by kernel_rfl))
 f144:=Tryz.func103.trans (congrArg some (by kernel_rfl))
 f217:=Tryz.func61.trans (congrArg some (by kernel_rfl))
 f219:=Tryz.func60.trans (congrArg some (by kernel_rfl))
 f224:=Tryz.func91.trans (congrArg some (by kernel_rfl))
 f225:=Tryz.func90.trans (congrArg some (by kernel_rfl))
 f266:=Tryz.func93.trans (congrArg some (by kernel_rfl))
 f267:=Tryz.func92.trans (congrArg some (by kernel_rfl))
 f314:=Tryz.func134.trans (congrArg some (by kernel_rfl))
 t3:=Tryz.underlying3
 a3:=Tryz.isAgg3
 z3:=Tryz.sizeOf3
 v3:=Tryz.zeroValue3
 t4:=Tryz.underlying4
 a4:=Tryz.isAgg4
 z4:=Tryz.sizeOf4
 v4:=Tryz.zeroValue4
 t5:=Tryz.underlying5
 a5:=Tryz.isAgg5
 z5:=Tryz.sizeOf5
 v5:=Tryz.zeroValue5
 t9:=Tryz.underlying9
 a9:=Tryz.isAgg9
 z9:=Tryz.sizeOf9
 v9:=Tryz.zeroValue9
 t46:=Tryz.underlying76
 a46:=Tryz.isAgg76
 z46:=Tryz.sizeOf76
 v46:=Tryz.zeroValue76
 t51:=Tryz.underlying55
 a51:=Tryz.isAgg55
 z51:=Tryz.sizeOf55
 v51:=Tryz.zeroValue55
 t146:=Tryz.underlying179
 a146:=Tryz.isAgg179
 z146:=Tryz.sizeOf179
 v146:=Tryz.zeroValue179
 g1:=by kernel_rfl }
open Go.RowKit Go.Lib in
theorem Tryz.strings_Contains (s sub:ByteArray) (m:Int) (w:World) (hs:s.size<4294967281) (hm:w.cell? ⟨0,0,none⟩=some (.int .i64 m)):
 Calls Tryz.prog 103 #[.string s,.string sub] w fun e w'=>e=.returned (.bool (Lib.contains s.data.toList sub.data.toList))∧w'=w:=Any.strings_Contains Tryz.lays144 s sub m w hs hm
def Tryz.lays145_ren:Go.Shelf.Ren:=⟨fun|145=>15|220=>31|219=>60|217=>61|225=>90|224=>91|267=>92|266=>93|314=>134|n=>n,fun|9=>9|4=>4|59=>39|3=>3|5=>5|46=>76|146=>179|51=>55|n=>n,fun|1=>0|n=>n⟩
theorem Tryz.lays145:Go.Proofs.Lays.n145 Tryz.prog Tryz.lays145_ren:={
 mixed:=by kernel_rfl
 f145:=Tryz.func15.trans (congrArg some (by kernel_rfl))
 f217:=Tryz.func61.trans (congrArg some (by kernel_rfl))
 f219:=Tryz.func60.trans (congrArg some (by kernel_rfl))
 f220:=Tryz.func31.trans (congrArg some (by kernel_rfl))
 f224:=Tryz.func91.trans (congrArg some (by kernel_rfl))
 f225:=Tryz.func90.trans (congrArg some (by kernel_rfl))
 f266:=Tryz.func93.trans (congrArg some (by kernel_rfl))
 f267:=Tryz.func92.trans (congrArg some (by kernel_rfl))
 f314:=Tryz.func134.trans (congrArg some (by kernel_rfl))
 t3:=Tryz.underlying3
 a3:=Tryz.isAgg3
 z3:=Tryz.sizeOf3
 v3:=Tryz.zeroValue3
 t4:=Tryz.underlying4
 a4:=Tryz.isAgg4
 z4:=Tryz.sizeOf4
 v4:=Tryz.zeroValue4
 t5:=Tryz.underlying5
 a5:=Tryz.isAgg5
 z5:=Tryz.sizeOf5
 v5:=Tryz.zeroValue5
 t9:=Tryz.underlying9
 a9:=Tryz.isAgg9
 z9:=Tryz.sizeOf9
 v9:=Tryz.zeroValue9
 t46:=Tryz.underlying76
 a46:=Tryz.isAgg76
 z46:=Tryz.sizeOf76
 v46:=Tryz.zeroValue76
 t51:=Tryz.underlying55
 a51:=Tryz.isAgg55
 z51:=Tryz.sizeOf55
 v51:=Tryz.zeroValue55
 t59:=Tryz.underlying39
 a59:=Tryz.isAgg39
 z59:=Tryz.sizeOf39
 v59:=Tryz.zeroValue39
 t146:=Tryz.underlying179
 a146:=Tryz.isAgg179
 z146:=Tryz.sizeOf179
 v146:=Tryz.zeroValue179
 g1:=by kernel_rfl }
open Go.RowKit Go.Lib in
theorem Tryz.strings_Cut (s sep:ByteArray) (m:Int) (w:World) (hs:s.size<4294967281) (hm:w.cell? ⟨0,0,none⟩=some (.int .i64 m)):
 Calls Tryz.prog 15 #[.string s,.string sep] w fun e w'=>e=.returned (.tuple #[.string ⟨(Lib.cut s.data.toList sep.data.toList).1.toArray⟩,.string ⟨(Lib.cut s.data.toList sep.data.toList).2.1.toArray⟩,.bool (Lib.cut s.data.toList sep.data.toList).2.2])∧∃n,w'=w.drewN n:=Any.strings_Cut Tryz.lays145 s sep m w hs hm
def Tryz.lays99_ren:Go.Shelf.Ren:=⟨fun|99=>102|206=>124|n=>n,fun|9=>9|4=>4|3=>3|n=>n,fun|n=>n⟩
theorem Tryz.lays99:Go.Proofs.Lays.n99 Tryz.prog Tryz.lays99_ren:={
 mixed:=by kernel_rfl
 f99:=Tryz.func102.trans (congrArg some (by kernel_rfl))
 f206:=Tryz.func124.trans (congrArg some (by kernel_rfl))
 t3:=Tryz.underlying3
 a3:=Tryz.isAgg3
 z3:=Tryz.sizeOf3
 v3:=Tryz.zeroValue3
 t4:=Tryz.underlying4
 a4:=Tryz.isAgg4
 z4:=Tryz.sizeOf4
 v4:=Tryz.zeroValue4
 t9:=Tryz.underlying9
 a9:=Tryz.isAgg9
 z9:=Tryz.sizeOf9
 v9:=Tryz.zeroValue9 }
open Go.RowKit Go.Lib in
theorem Tryz.strings_HasPrefix (s p:ByteArray) (w:World):
 Calls Tryz.prog 102 #[.string s,.string p] w fun e w'=>e=.returned (.bool (Lib.hasPrefix s.data.toList p.data.toList))∧w'=w:=Any.strings_HasPrefix Tryz.lays99 s p w
def Tryz.lays101_ren:Go.Shelf.Ren:=⟨fun|101=>49|208=>81|206=>124|n=>n,fun|9=>9|4=>4|3=>3|n=>n,fun|n=>n⟩
theorem Tryz.lays101:Go.Proofs.Lays.n101 Tryz.prog Tryz.lays101_ren:={
 mixed:=by kernel_rfl
 f101:=Tryz.func49.trans (congrArg some (by kernel_rfl))
 f206:=Tryz.func124.trans (congrArg some (by kernel_rfl))
 f208:=Tryz.func81.trans (congrArg some (by kernel_rfl))
 t3:=Tryz.underlying3
 a3:=Tryz.isAgg3
 z3:=Tryz.sizeOf3
 v3:=Tryz.zeroValue3
 t4:=Tryz.underlying4
 a4:=Tryz.isAgg4
 z4:=Tryz.sizeOf4
 v4:=Tryz.zeroValue4
 t9:=Tryz.underlying9
 a9:=Tryz.isAgg9
 z9:=Tryz.sizeOf9
 v9:=Tryz.zeroValue9 }
open Go.RowKit Go.Lib in
theorem Tryz.strings_TrimPrefix (s p:ByteArray) (w:World):
 Calls Tryz.prog 49 #[.string s,.string p] w fun e w'=>e=.returned (.string ⟨(Lib.trimPrefix s.data.toList p.data.toList).toArray⟩)∧w'=w:=Any.strings_TrimPrefix Tryz.lays101 s p w
def Tryz.lays221_ren:Go.Shelf.Ren:=⟨fun|221=>70|268=>107|138=>108|143=>109|195=>148|197=>149|218=>150|219=>60|260=>182|217=>61|225=>90|224=>91|267=>92|266=>93|314=>134|n=>n,fun|9=>9|3=>3|31=>45|4=>4|0=>0|105=>197|21=>21|5=>5|46=>76|119=>259|139=>262|138=>261|146=>179|51=>55|n=>n,fun|1=>0|3=>4|4=>5|n=>n⟩
def Tryz.lays146_ren:Go.Shelf.Ren:=⟨fun|146=>40|221=>70|268=>107|138=>108|143=>109|195=>148|197=>149|218=>150|219=>60|260=>182|217=>61|225=>90|224=>91|267=>92|266=>93|314=>134|n=>n,fun|9=>9|31=>45|3=>3|4=>4|0=>0|105=>197|21=>21|5=>5|46=>76|119=>259|139=>262|138=>261|146=>179|51=>55|n=>n,fun|1=>0|3=>4|4=>5|n=>n⟩
theorem Tryz.lays146:Go.Proofs.Lays.n146 Tryz.prog Tryz.lays146_ren:={
 mixed:=by kernel_rfl
 f138:=Tryz.func108.trans (congrArg some (by kernel_rfl))
 f143:=Tryz.func109.trans (congrArg some (by kernel_rfl))
 f146:=Tryz.func40.trans (congrArg some (by kernel_rfl))
 f195:=Tryz.func148.trans (congrArg some (by kernel_rfl))
 f197:=Tryz.func149.trans (congrArg some (by kernel_rfl))
 f217:=Tryz.func61.trans (congrArg some (by kernel_rfl))
 f218:=Tryz.func150.trans (congrArg some (by kernel_rfl))
 f219:=Tryz.func60.trans (congrArg some (by kernel_rfl))
 f221:=Tryz.func70.trans (congrArg some (by kernel_rfl))
 f224:=Tryz.func91.trans (congrArg some (by kernel_rfl))
 f225:=Tryz.func90.trans (congrArg some (by kernel_rfl))
 f260:=Tryz.func182.trans (congrArg some (by kernel_rfl))
 f266:=Tryz.func93.trans (congrArg some (by kernel_rfl))
 f267:=Tryz.func92.trans (congrArg some (by kernel_rfl))
 f268:=Tryz.func107.trans (congrArg some (by kernel_rfl))
 f314:=Tryz.func134.trans (congrArg some (by kernel_rfl))
 t0:=Tryz.underlying0
 a0:=Tryz.isAgg0
 z0:=Tryz.sizeOf0
 v0:=Tryz.zeroValue0
 t3:=Tryz.underlying3
 a3:=Tryz.isAgg3
 z3:=Tryz.sizeOf3
 v3:=Tryz.zeroValue3
 t4:=Tryz.underlying4
 a4:=Tryz.isAgg4
 z4:=Tryz.sizeOf4
 v4:=Tryz.zeroValue4
 t5:=Tryz.underlying5
 a5:=Tryz.isAgg5
 z5:=Tryz.sizeOf5
 v5:=Tryz.zeroValue5
 t9:=Tryz.underlying9
 a9:=Tryz.isAgg9
 z9:=Tryz.sizeOf9
 v9:=Tryz.zeroValue9
 t21:=Tryz.underlying21
 a21:=Tryz.isAgg21
 z21:=Tryz.sizeOf21
 v21:=Tryz.zeroValue21
 t31:=Tryz.underlying45
 a31:=Tryz.isAgg45
 z31:=Tryz.sizeOf45
 v31:=Tryz.zeroValue45
 t46:=Tryz.underlying76
 a46:=Tryz.isAgg76
 z46:=Tryz.sizeOf76
 v46:=Tryz.zeroValue76
 t51:=Tryz.underlying55
 a51:=Tryz.isAgg55
 z51:=Tryz.sizeOf55
 v51:=Tryz.zeroValue55
 t105:=Tryz.underlying197
 a105:=Tryz.isAgg197
 z105:=Tryz.sizeOf197
 v105:=Tryz.zeroValue197
 t119:=Tryz.underlying259
 a119:=Tryz.isAgg259
 z119:=Tryz.sizeOf259
 t138:=Tryz.underlying261
 a138:=Tryz.isAgg261
 z138:=Tryz.sizeOf261
 v138:=Tryz.zeroValue261
 t139:=Tryz.underlying262
 a139:=Tryz.isAgg262
 z139:=Tryz.sizeOf262
 v139:=Tryz.zeroValue262
 t146:=Tryz.underlying179
 a146:=Tryz.isAgg179
 z146:=Tryz.sizeOf179
 v146:=Tryz.zeroValue179
 g1:=by kernel_rfl
 g3:=by kernel_rfl
 g4:=by kernel_rfl }
open Go.RowKit Go.Lib in
theorem Tryz.strings_Split (s sep:ByteArray) (m:Int) (w:World) (hs:s.size<4294967281) (hm:w.cell? ⟨0,0,none⟩=some (.int .i64 m)) (h1:1≤sep.size):
 Calls Tryz.prog 40 #[.string s,.string sep] w fun e w'=>
  e=.returned (.slice (some ⟨w.heap.size,0,none⟩) (Lib.countB s sep+1) (Lib.countB s sep+1))∧w'=w.alloc (.cells ((Lib.splitB sep 0 (Lib.countB s sep) s).map Value.string).toArray 9):=Any.strings_Split Tryz.lays146 (by kernel_rfl) s sep m w hs hm h1
def Tryz.lays264_ren:Go.Shelf.Ren:=⟨fun|264=>203|n=>n,fun|53=>78|46=>76|n=>n,fun|n=>n⟩
theorem Tryz.lays264:Go.Proofs.Lays.n264 Tryz.prog Tryz.lays264_ren:={
 mixed:=by kernel_rfl
 f264:=Tryz.func203.trans (congrArg some (by kernel_rfl))
 t46:=Tryz.underlying76
 a46:=Tryz.isAgg76
 z46:=Tryz.sizeOf76
 v46:=Tryz.zeroValue76
 t53:=Tryz.underlying78
 a53:=Tryz.isAgg78
 z53:=Tryz.sizeOf78
 v53:=Tryz.zeroValue78 }
open Go.RowKit Go.Lib in
theorem Tryz.bits_Mul64 (x y:Nat) (hx:x<18446744073709551616) (hy:y<18446744073709551616) (w:World):
 Calls Tryz.prog 203 #[.int .u64 x,.int .u64 y] w fun e w'=>e=.returned (.tuple #[.int .u64 ((x*y/18446744073709551616:Nat):Int),.int .u64 ((x*y%18446744073709551616:Nat):Int)])∧w'=w:=Any.bits_Mul64 Tryz.lays264 x y hx hy w
def Tryz.lays212_ren:Go.Shelf.Ren:=⟨fun|212=>194|263=>210|264=>203|n=>n,fun|46=>76|51=>55|146=>179|53=>78|148=>253|n=>n,fun|n=>n⟩
theorem Tryz.lays212:Go.Proofs.Lays.n212 Tryz.prog Tryz.lays212_ren:={
 mixed:=by kernel_rfl
 f212:=Tryz.func194.trans (congrArg some (by kernel_rfl))
 f263:=Tryz.func210.trans (congrArg some (by kernel_rfl))
 f264:=Tryz.func203.trans (congrArg some (by kernel_rfl))
 t46:=Tryz.underlying76
 a46:=Tryz.isAgg76
 z46:=Tryz.sizeOf76
 v46:=Tryz.zeroValue76
 t51:=Tryz.underlying55
 a51:=Tryz.isAgg55
 z51:=Tryz.sizeOf55
 v51:=Tryz.zeroValue55
 t53:=Tryz.underlying78
 a53:=Tryz.isAgg78
 z53:=Tryz.sizeOf78
 v53:=Tryz.zeroValue78
 t146:=Tryz.underlying179
 a146:=Tryz.isAgg179
 z146:=Tryz.sizeOf179
 v146:=Tryz.zeroValue179
 t148:=Tryz.underlying253
 a148:=Tryz.isAgg253
 z148:=Tryz.sizeOf253
 v148:=Tryz.zeroValue253 }
open Go.RowKit Go.Lib in
theorem Tryz.bits_Mul (x y:Nat) (hx:x<18446744073709551616) (hy:y<18446744073709551616) (w:World):
 Calls Tryz.prog 194 #[.int .u64 x,.int .u64 y] w fun e w'=>e=.returned (.tuple #[.int .u64 ((x*y/18446744073709551616:Nat):Int),.int .u64 ((x*y%18446744073709551616:Nat):Int)])∧w'=w:=Any.bits_Mul Tryz.lays212 x y hx hy w
def Tryz.lays110_ren:Go.Shelf.Ren:=⟨fun|110=>37|109=>65|n=>n,fun|31=>45|9=>9|4=>4|3=>3|0=>0|n=>n,fun|n=>n⟩
theorem Tryz.lays110:Go.Proofs.Lays.n110 Tryz.prog Tryz.lays110_ren:={
 mixed:=by kernel_rfl
 f109:=Tryz.func65.trans (congrArg some (by kernel_rfl))
 f110:=Tryz.func37.trans (congrArg some (by kernel_rfl))
 t0:=Tryz.underlying0
 a0:=Tryz.isAgg0
 z0:=Tryz.sizeOf0
 v0:=Tryz.zeroValue0
 t3:=Tryz.underlying3
 a3:=Tryz.isAgg3
 z3:=Tryz.sizeOf3
 v3:=Tryz.zeroValue3
 t4:=Tryz.underlying4
 a4:=Tryz.isAgg4
 z4:=Tryz.sizeOf4
 v4:=Tryz.zeroValue4
 t9:=Tryz.underlying9
 a9:=Tryz.isAgg9
 z9:=Tryz.sizeOf9
 v9:=Tryz.zeroValue9
 t31:=Tryz.underlying45
 a31:=Tryz.isAgg45
 z31:=Tryz.sizeOf45
 v31:=Tryz.zeroValue45 }
open Go.Lib in
theorem Tryz.slices_Contains_string (b off n c:Nat) (zs:List ByteArray) (x:ByteArray) (w:World) (hz:n≤zs.length) (hbig:n≤9223372036854775807) (hc:∀j,j<zs.length→w.cell? ⟨b,off+j,none⟩=some (.string (zs.getD j ByteArray.empty))):
 Calls Tryz.prog 37 #[.slice (some ⟨b,off,none⟩) n c,.string x] w fun e w'=>e=.returned (.bool (Lib.containsS (zs.take n) x))∧w'=w:=Any.slices_Contains_string Tryz.lays110 b off n c zs x w hz hbig hc
open Go.Lib in
theorem Tryz.slices_Contains_string_empty (a:Option Addr) (c:Nat) (x:ByteArray) (w:World):
 Calls Tryz.prog 37 #[.slice a 0 c,.string x] w fun e w'=>e=.returned (.bool false)∧w'=w:=Any.slices_Contains_string_empty Tryz.lays110 a c x w
def Tryz.laysNm216_ren:Go.Shelf.Ren:=⟨fun|16=>28|n=>n,fun|24=>45|9=>9|4=>4|n=>n,fun|n=>n⟩
theorem Tryz.laysNm216:Go.Proofs.Lays2.n16 Tryz.prog Tryz.laysNm216_ren:={
 mixed:=by kernel_rfl
 f16:=Tryz.func28.trans (congrArg some (by kernel_rfl))
 t4:=Tryz.underlying4
 a4:=Tryz.isAgg4
 z4:=Tryz.sizeOf4
 v4:=Tryz.zeroValue4
 t9:=Tryz.underlying9
 a9:=Tryz.isAgg9
 z9:=Tryz.sizeOf9
 v9:=Tryz.zeroValue9
 t24:=Tryz.underlying45
 a24:=Tryz.isAgg45
 z24:=Tryz.sizeOf45
 v24:=Tryz.zeroValue45
 i9:=by kernel_rfl }
open Go.RowKit Go.Lib in
theorem Tryz.slices_Clone_string (b off n c:Nat) (zs:List ByteArray) (w:World) (hz:n≤zs.length) (hbig:n*16≤140737488355328) (hc:∀j,j<zs.length→w.cell? ⟨b,off+j,none⟩=some (.string (zs.getD j ByteArray.empty))):
 Calls Tryz.prog 28 #[.slice (some ⟨b,off,none⟩) n c] w fun e w'=>∃v',e=.returned v'∧w'.ownsRow w.heap.size 9 1 v' n ((zs.take n).map (Value.string))∧v'≠ .slice none 0 0∧Below w.heap.size w w':=Any.slices_Clone_string Tryz.laysNm216 b off n c zs w hz hbig hc
open Go.RowKit Go.Lib in
theorem Tryz.slices_Clone_string_nil (n c:Nat) (w:World):
 Calls Tryz.prog 28 #[.slice none n c] w fun e w'=>e=.returned (.slice none 0 0)∧w'=w:=Any.slices_Clone_string_nil Tryz.laysNm216 n c w
open Go.RowKit Go.Lib in
theorem Tryz.slices_Clone_string_zero (a:Addr) (c:Nat) (w:World):
 Calls Tryz.prog 28 #[.slice (some a) 0 c] w fun e w'=>∃v',e=.returned v'∧w'.ownsRow w.heap.size 9 1 v' 0 []∧v'≠ .slice none 0 0∧Below w.heap.size w w':=Any.slices_Clone_string_zero Tryz.laysNm216 a c w
end Go.Proofs
