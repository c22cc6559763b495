/- Part 1: lemmas. -/
import Derived.Test.YtonomfeipkdmhaaGreatDoorK00
import Derived.Ground.Names2Prog
import Derived.Ground.PaProg
import Derived.Ground.SlbNamesProg
import Derived.Shelf.Bytes.IndexByte
import Derived.Shelf.Bytes.SlCountOne
import Derived.Shelf.Bytes.SlCountWhole
import Derived.Shelf.Bytes.SlEqualAll
import Derived.Shelf.Bytes.SlIndexAt
import Derived.Shelf.Bytes.SlIndexSmall
import Derived.Shelf.Bytes.SlIndexWhole
import Derived.Shelf.Bytes.SlSearch0
import Derived.Shelf.Bytes.SlSearch1
import Derived.Shelf.Bytes.SlSearch2
import Derived.Shelf.Bytes.SlSplit
import Derived.Shelf.Bytes.SlSplitNil
import Derived.Shelf.Bytes.Small
import Derived.Shelf.LaysM
import Derived.Shelf.Path.Small
import Derived.Shelf.Slices.Cells
import Derived.Shelf.Slices.Clone
import Derived.Shelf.Slices.Empties2
import Derived.Shelf.Slices.Equal
import Derived.Shelf.Slices.Reverse
import Derived.Shelf.Slices.Turned
import Derived.Shelf.Small.Strs
import Derived.Shelf.Small.Utf8
import Derived.Shelf.Small.Wraps
import Derived.Shelf.Strconv.AppendInt10
import Derived.Shelf.Strconv.AppendUint10
import Derived.Shelf.Strconv.Itoa0
import Derived.Shelf.Strconv.Itoa1
import Derived.Shelf.Strconv.Itoa2
import Derived.Shelf.Strconv.Itoa3
import Derived.Shelf.Strings.AsciiSet
import Derived.Shelf.Strings.Builder1
import Derived.Shelf.Strings.Builder2
import Derived.Shelf.Strings.Builder2Cap
import Derived.Shelf.Strings.BuilderCap
import Derived.Shelf.Strings.BuilderF
import Derived.Shelf.Strings.BuilderK
import Derived.Shelf.Strings.Count
import Derived.Shelf.Strings.Cut
import Derived.Shelf.Strings.Explode
import Derived.Shelf.Strings.IndexAny
import Derived.Shelf.Strings.IndexAnyAll
import Derived.Shelf.Strings.LastIndex
import Derived.Shelf.Strings.OnBuilder
import Derived.Shelf.Strings.Prefix
import Derived.Shelf.Strings.RuneCount
import Derived.Shelf.Strings.Runes
import Derived.Shelf.Strings.Search1
import Derived.Shelf.Strings.Search2
import Derived.Shelf.Strings.Search3
import Derived.Shelf.Strings.Shaped
import Derived.Shelf.Strings.Split
import Derived.Shelf.Strings.SplitShaped
import Derived.Shelf.Strings.Trim
import Derived.Shelf.Unicode.Decode
import Derived.Shelf.Unicode.DecodeAny
import Derived.Shelf.Unicode.DecodeLast
import Derived.Shelf.Unicode.DecodeSlow
import Derived.Shelf.Utf8.RuneCount
import Derived.Test.YtonomfeipkdmhaaGreatDoorProg
set_option linter.unusedVariables false
set_option linter.unusedSimpArgs false
set_option maxRecDepth 100000
set_option maxHeartbeats 16000000
namespace Go.Proofs
open Go.Shelf
def Tryz.lays169_ren:Go.Shelf.Ren:=⟨fun | 169=>42 | n=>n,fun | 70=>74 | 9=>9 | 0=>0 | 72=>76 | 37=>25 | 127=>117 | 3=>3 | 5=>5 | n=>n,fun | n=>n⟩
theorem Tryz.lays169:Go.Proofs.Lays.n169 Tryz.prog Tryz.lays169_ren:={
 mixed:=by kernel_rfl
 f169:=Tryz.func42.trans (congrArg some (by kernel_rfl))
 t0:=Tryz.underlying0
 a0:=Tryz.isAgg0
 z0:=Tryz.sizeOf0
 v0:=Tryz.zeroValue0
 t3:=Tryz.underlying3
 a3:=Tryz.isAgg3
 z3:=Tryz.sizeOf3
 v3:=Tryz.zeroValue3
 t9:=Tryz.underlying9
 a9:=Tryz.isAgg9
 z9:=Tryz.sizeOf9
 v9:=Tryz.zeroValue9
 t37:=Tryz.underlying25
 a37:=Tryz.isAgg25
 z37:=Tryz.sizeOf25
 v37:=Tryz.zeroValue25
 t70:=Tryz.underlying74
 a70:=Tryz.isAgg74
 z70:=Tryz.sizeOf74
 v70:=Tryz.zeroValue74
 t72:=Tryz.underlying76
 a72:=Tryz.isAgg76
 z72:=Tryz.sizeOf76
 v72:=Tryz.zeroValue76
 t127:=Tryz.underlying117
 a127:=Tryz.isAgg117
 z127:=Tryz.sizeOf117
 v127:=Tryz.zeroValue117 }
theorem Tryz.Builder_Extra_169:Builder.Extra Tryz.prog Tryz.lays169_ren:={
 sizeBuilder:=by kernel_rfl
 liesBuilder:=by kernel_rfl
 t5:=Tryz.underlying5
 a5:=Tryz.isAgg5
 z5:=Tryz.sizeOf5
 v5:=Tryz.zeroValue5
 infoByte:=by kernel_rfl
 cellsByte:=by kernel_rfl
 sizeByte:=by kernel_rfl
 neB5:=by decide }
open Go.RowKit in
theorem Tryz.Builder_String_any (B b:Nat) (l:List UInt8) (w:World) (h:Lib.IsBuilder 76 5 B b (Lib.byteCells l) w) (hBw:B<=w.heap.size):
  Calls Tryz.prog 42 #[.pointer (some ⟨b,0,none⟩)] w fun e w'=>e= .returned (.string ⟨l.toArray⟩)/\Below B w w':=Any.Builder_String_any Tryz.lays169 Tryz.Builder_Extra_169 B b l w h hBw
def Tryz.lays156_ren:Go.Shelf.Ren:=⟨fun | 156=>341 | 165=>355 | 166=>40 | 169=>42 | 240=>91 | 241=>367 | 276=>158 | 277=>374 | n=>n,fun | 31=>22 | 9=>9 | 3=>3 | 4=>4 | 0=>0 | 20=>20 | 72=>76 | 76=>80 | 70=>74 | 37=>25 | 75=>79 | 127=>117 | 164=>158 | 5=>5 | 80=>83 | n=>n,fun | n=>n⟩
theorem Tryz.lays156:Go.Proofs.Lays.n156 Tryz.prog Tryz.lays156_ren:={
 mixed:=by kernel_rfl
 f156:=Tryz.func341.trans (congrArg some (by kernel_rfl))
 f165:=Tryz.func355.trans (congrArg some (by kernel_rfl))
 f166:=Tryz.func40.trans (congrArg some (by kernel_rfl))
 f169:=Tryz.func42.trans (congrArg some (by kernel_rfl))
 f240:=Tryz.func91.trans (congrArg some (by kernel_rfl))
 f241:=Tryz.func367.trans (congrArg some (by kernel_rfl))
 f276:=Tryz.func158.trans (congrArg some (by kernel_rfl))
 f277:=Tryz.func374.trans (congrArg some (by kernel_rfl))
 t0:=Tryz.underlying0
 a0:=Tryz.isAgg0
 z0:=Tryz.sizeOf0
 v0:=Tryz.zeroValue0
 t3:=Tryz.underlying3
 a3:=Tryz.isAgg3
 z3:=Tryz.sizeOf3
 v3:=Tryz.zeroValue3
 t4:=Tryz.underlying4
 a4:=Tryz.isAgg4
 z4:=Tryz.sizeOf4
 v4:=Tryz.zeroValue4
 t9:=Tryz.underlying9
 a9:=Tryz.isAgg9
 z9:=Tryz.sizeOf9
 v9:=Tryz.zeroValue9
 t20:=Tryz.underlying20
 a20:=Tryz.isAgg20
 z20:=Tryz.sizeOf20
 v20:=Tryz.zeroValue20
 t31:=Tryz.underlying22
 a31:=Tryz.isAgg22
 z31:=Tryz.sizeOf22
 v31:=Tryz.zeroValue22
 t37:=Tryz.underlying25
 a37:=Tryz.isAgg25
 z37:=Tryz.sizeOf25
 v37:=Tryz.zeroValue25
 t70:=Tryz.underlying74
 a70:=Tryz.isAgg74
 z70:=Tryz.sizeOf74
 v70:=Tryz.zeroValue74
 t72:=Tryz.underlying76
 a72:=Tryz.isAgg76
 z72:=Tryz.sizeOf76
 v72:=Tryz.zeroValue76
 t75:=Tryz.underlying79
 a75:=Tryz.isAgg79
 z75:=Tryz.sizeOf79
 v75:=Tryz.zeroValue79
 t76:=Tryz.underlying80
 a76:=Tryz.isAgg80
 z76:=Tryz.sizeOf80
 v76:=Tryz.zeroValue80
 t127:=Tryz.underlying117
 a127:=Tryz.isAgg117
 z127:=Tryz.sizeOf117
 v127:=Tryz.zeroValue117
 t164:=Tryz.underlying158
 a164:=Tryz.isAgg158
 z164:=Tryz.sizeOf158
 v164:=Tryz.zeroValue158 }
theorem Tryz.Builder_Extra_156:Builder.Extra Tryz.prog Tryz.lays156_ren:={
 sizeBuilder:=by kernel_rfl
 liesBuilder:=by kernel_rfl
 t5:=Tryz.underlying5
 a5:=Tryz.isAgg5
 z5:=Tryz.sizeOf5
 v5:=Tryz.zeroValue5
 infoByte:=by kernel_rfl
 cellsByte:=by kernel_rfl
 sizeByte:=by kernel_rfl
 neB5:=by decide }
open Go.RowKit in
theorem Tryz.strings_Join (bk o c:Nat) (xs:List ByteArray) (sep:ByteArray) (w:World) (hcells:∀ (j:Nat) x,xs[j]? =some x->w.cell? ⟨bk,o+j,none⟩=some (.string x)) (hbk:bk<w.heap.size) (hN:xs.length<=140737488355328) (hcap:xs.length<=c) (hlen:(Lib.join (xs.map (·.data.toList)) sep.data.toList).length<=140737488355328):
  Calls Tryz.prog 341 #[.slice (some ⟨bk,o,none⟩) xs.length c,.string sep] w fun e w'=>e= .returned (.string ⟨(Lib.join (xs.map (·.data.toList)) sep.data.toList).toArray⟩)/\Below w.heap.size w w':=Any.strings_Join Tryz.lays156 Tryz.Builder_Extra_156 bk o c xs sep w hcells hbk hN hcap hlen
def Tryz.lays231_ren:Go.Shelf.Ren:=⟨fun | 231=>243 | n=>n,fun | 9=>9 | 5=>5 | 3=>3 | 4=>4 | n=>n,fun | n=>n⟩
def Tryz.lays161_ren:Go.Shelf.Ren:=⟨fun | 161=>177 | 231=>243 | 227=>238 | 233=>244 | 235=>245 | 228=>289 | 197=>294 | 151=>291 | 260=>318 | 152=>314 | 137=>47 | 119=>331 | 224=>232 | 225=>277 | 217=>95 | 266=>162 | n=>n,fun | 9=>9 | 4=>4 | 3=>3 | 5=>5 | 117=>207 | 116=>206 | 0=>0 | 124=>210 | 105=>121 | 21=>21 | 119=>201 | 46=>200 | 139=>204 | 138=>203 | n=>n,fun | 3=>1 | 4=>2 | n=>n⟩
def Tryz.lays162_ren:Go.Shelf.Ren:=⟨fun | 162=>173 | 232=>237 | 227=>238 | 234=>239 | 236=>240 | 228=>289 | 271=>290 | 151=>291 | 120=>313 | 197=>294 | 152=>314 | 260=>318 | 137=>47 | 119=>331 | 224=>232 | 225=>277 | 217=>95 | 266=>162 | n=>n,fun | 9=>9 | 4=>4 | 3=>3 | 5=>5 | 117=>207 | 116=>206 | 0=>0 | 124=>210 | 21=>21 | 105=>121 | 46=>200 | 119=>201 | 139=>204 | 138=>203 | n=>n,fun | 3=>1 | 4=>2 | n=>n⟩
theorem Tryz.lays162:Go.Proofs.Lays.n162 Tryz.prog Tryz.lays162_ren:={
 mixed:=by kernel_rfl
 f119:=Tryz.func331.trans (congrArg some (by kernel_rfl))
 f120:=Tryz.func313.trans (congrArg some (by kernel_rfl))
 f137:=Tryz.func47.trans (congrArg some (by kernel_rfl))
 f151:=Tryz.func291.trans (congrArg some (by kernel_rfl))
 f152:=Tryz.func314.trans (congrArg some (by kernel_rfl))
 f162:=Tryz.func173.trans (congrArg some (by kernel_rfl))
 f197:=Tryz.func294.trans (congrArg some (by kernel_rfl))
 f217:=Tryz.func95.trans (congrArg some (by kernel_rfl))
 f224:=Tryz.func232.trans (congrArg some (by kernel_rfl))
 f225:=Tryz.func277.trans (congrArg some (by kernel_rfl))
 f227:=Tryz.func238.trans (congrArg some (by kernel_rfl))
 f228:=Tryz.func289.trans (congrArg some (by kernel_rfl))
 f232:=Tryz.func237.trans (congrArg some (by kernel_rfl))
 f234:=Tryz.func239.trans (congrArg some (by kernel_rfl))
 f236:=Tryz.func240.trans (congrArg some (by kernel_rfl))
 f260:=Tryz.func318.trans (congrArg some (by kernel_rfl))
 f266:=Tryz.func162.trans (congrArg some (by kernel_rfl))
 f271:=Tryz.func290.trans (congrArg some (by kernel_rfl))
 t0:=Tryz.underlying0
 a0:=Tryz.isAgg0
 z0:=Tryz.sizeOf0
 v0:=Tryz.zeroValue0
 t3:=Tryz.underlying3
 a3:=Tryz.isAgg3
 z3:=Tryz.sizeOf3
 v3:=Tryz.zeroValue3
 t4:=Tryz.underlying4
 a4:=Tryz.isAgg4
 z4:=Tryz.sizeOf4
 v4:=Tryz.zeroValue4
 t5:=Tryz.underlying5
 a5:=Tryz.isAgg5
 z5:=Tryz.sizeOf5
 v5:=Tryz.zeroValue5
 t9:=Tryz.underlying9
 a9:=Tryz.isAgg9
 z9:=Tryz.sizeOf9
 v9:=Tryz.zeroValue9
 t21:=Tryz.underlying21
 a21:=Tryz.isAgg21
 z21:=Tryz.sizeOf21
 v21:=Tryz.zeroValue21
 t46:=Tryz.underlying200
 a46:=Tryz.isAgg200
 z46:=Tryz.sizeOf200
 v46:=Tryz.zeroValue200
 t105:=Tryz.underlying121
 a105:=Tryz.isAgg121
 z105:=Tryz.sizeOf121
 v105:=Tryz.zeroValue121
 t116:=Tryz.underlying206
 a116:=Tryz.isAgg206
 z116:=Tryz.sizeOf206
 t117:=Tryz.underlying207
 a117:=Tryz.isAgg207
 z117:=Tryz.sizeOf207
 v117:=Tryz.zeroValue207
 t119:=Tryz.underlying201
 a119:=Tryz.isAgg201
 z119:=Tryz.sizeOf201
 t124:=Tryz.underlying210
 a124:=Tryz.isAgg210
 z124:=Tryz.sizeOf210
 v124:=Tryz.zeroValue210
 t138:=Tryz.underlying203
 a138:=Tryz.isAgg203
 z138:=Tryz.sizeOf203
 v138:=Tryz.zeroValue203
 t139:=Tryz.underlying204
 a139:=Tryz.isAgg204
 z139:=Tryz.sizeOf204
 v139:=Tryz.zeroValue204
 g3:=by kernel_rfl
 g4:=by kernel_rfl }
open Go.RowKit in
theorem Tryz.strings_TrimRight_one (s:ByteArray) (c:UInt8) (hc:c.toNat<128) (w:World) (hs:s.size<=9223372036854775807):
  Calls Tryz.prog 173 #[.string s,.string ⟨#[c]⟩] w fun e w'=>e= .returned (.string ⟨(Lib.trimRightB s.data.toList c).toArray⟩)/\w'=w:=Any.strings_TrimRight_one Tryz.lays162 s c hc w hs
def Tryz.lays160_ren:Go.Shelf.Ren:=⟨fun | 160=>248 | 232=>237 | 231=>243 | 227=>238 | 234=>239 | 233=>244 | 236=>240 | 235=>245 | 228=>289 | 271=>290 | 151=>291 | 197=>294 | 120=>313 | 152=>314 | 260=>318 | 137=>47 | 119=>331 | 224=>232 | 225=>277 | 217=>95 | 266=>162 | n=>n,fun | 9=>9 | 4=>4 | 3=>3 | 5=>5 | 117=>207 | 116=>206 | 0=>0 | 124=>210 | 21=>21 | 105=>121 | 46=>200 | 119=>201 | 139=>204 | 138=>203 | n=>n,fun | 3=>1 | 4=>2 | n=>n⟩
theorem Tryz.lays160:Go.Proofs.Lays.n160 Tryz.prog Tryz.lays160_ren:={
 mixed:=by kernel_rfl
 f119:=Tryz.func331.trans (congrArg some (by kernel_rfl))
 f120:=Tryz.func313.trans (congrArg some (by kernel_rfl))
 f137:=Tryz.func47.trans (congrArg some (by kernel_rfl))
 f151:=Tryz.func291.trans (congrArg some (by kernel_rfl))
 f152:=Tryz.func314.trans (congrArg some (by kernel_rfl))
 f160:=Tryz.func248.trans (congrArg some (by kernel_rfl))
 f197:=Tryz.func294.trans (congrArg some (by kernel_rfl))
 f217:=Tryz.func95.trans (congrArg some (by kernel_rfl))
 f224:=Tryz.func232.trans (congrArg some (by kernel_rfl))
 f225:=Tryz.func277.trans (congrArg some (by kernel_rfl))
 f227:=Tryz.func238.trans (congrArg some (by kernel_rfl))
 f228:=Tryz.func289.trans (congrArg some (by kernel_rfl))
 f231:=Tryz.func243.trans (congrArg some (by kernel_rfl))
 f232:=Tryz.func237.trans (congrArg some (by kernel_rfl))
 f233:=Tryz.func244.trans (congrArg some (by kernel_rfl))
 f234:=Tryz.func239.trans (congrArg some (by kernel_rfl))
 f235:=Tryz.func245.trans (congrArg some (by kernel_rfl))
 f236:=Tryz.func240.trans (congrArg some (by kernel_rfl))
 f260:=Tryz.func318.trans (congrArg some (by kernel_rfl))
 f266:=Tryz.func162.trans (congrArg some (by kernel_rfl))
 f271:=Tryz.func290.trans (congrArg some (by kernel_rfl))
 t0:=Tryz.underlying0
 a0:=Tryz.isAgg0
 z0:=Tryz.sizeOf0
 v0:=Tryz.zeroValue0
 t3:=Tryz.underlying3
 a3:=Tryz.isAgg3
 z3:=Tryz.sizeOf3
 v3:=Tryz.zeroValue3
 t4:=Tryz.underlying4
 a4:=Tryz.isAgg4
 z4:=Tryz.sizeOf4
 v4:=Tryz.zeroValue4
 t5:=Tryz.underlying5
 a5:=Tryz.isAgg5
 z5:=Tryz.sizeOf5
 v5:=Tryz.zeroValue5
 t9:=Tryz.underlying9
 a9:=Tryz.isAgg9
 z9:=Tryz.sizeOf9
 v9:=Tryz.zeroValue9
 t21:=Tryz.underlying21
 a21:=Tryz.isAgg21
 z21:=Tryz.sizeOf21
 v21:=Tryz.zeroValue21
 t46:=Tryz.underlying200
 a46:=Tryz.isAgg200
 z46:=Tryz.sizeOf200
 v46:=Tryz.zeroValue200
 t105:=Tryz.underlying121
 a105:=Tryz.isAgg121
 z105:=Tryz.sizeOf121
 v105:=Tryz.zeroValue121
 t116:=Tryz.underlying206
 a116:=Tryz.isAgg206
 z116:=Tryz.sizeOf206
 t117:=Tryz.underlying207
 a117:=Tryz.isAgg207
 z117:=Tryz.sizeOf207
 v117:=Tryz.zeroValue207
 t119:=Tryz.underlying201
 a119:=Tryz.isAgg201
 z119:=Tryz.sizeOf201
 t124:=Tryz.underlying210
 a124:=Tryz.isAgg210
 z124:=Tryz.sizeOf210
 v124:=Tryz.zeroValue210
 t138:=Tryz.underlying203
 a138:=Tryz.isAgg203
 z138:=Tryz.sizeOf203
 v138:=Tryz.zeroValue203
 t139:=Tryz.underlying204
 a139:=Tryz.isAgg204
 z139:=Tryz.sizeOf204
 v139:=Tryz.zeroValue204
 g3:=by kernel_rfl
 g4:=by kernel_rfl }
def Tryz.lays119_ren:Go.Shelf.Ren:=⟨fun | 119=>331 | n=>n,fun | 21=>21 | 4=>4 | n=>n,fun | n=>n⟩
theorem Tryz.lays119:Go.Proofs.Lays.n119 Tryz.prog Tryz.lays119_ren:={
 mixed:=by kernel_rfl
 f119:=Tryz.func331.trans (congrArg some (by kernel_rfl))
 t4:=Tryz.underlying4
 a4:=Tryz.isAgg4
 z4:=Tryz.sizeOf4
 v4:=Tryz.zeroValue4
 t21:=Tryz.underlying21
 a21:=Tryz.isAgg21
 z21:=Tryz.sizeOf21
 v21:=Tryz.zeroValue21 }
theorem Tryz.utf8_ValidRune (r:Int) (w:World):
  Calls Tryz.prog 331 #[.int .i32 r] w fun e w'=>e= .returned (.bool (Lib.validRune r))/\w'=w:=Any.utf8_ValidRune Tryz.lays119 r w
def Tryz.lays137_ren:Go.Shelf.Ren:=⟨fun | 137=>47 | 217=>95 | 266=>162 | n=>n,fun | 9=>9 | 5=>5 | 3=>3 | n=>n,fun | n=>n⟩
theorem Tryz.lays137:Go.Proofs.Lays.n137 Tryz.prog Tryz.lays137_ren:={
 mixed:=by kernel_rfl
 f137:=Tryz.func47.trans (congrArg some (by kernel_rfl))
 f217:=Tryz.func95.trans (congrArg some (by kernel_rfl))
 f266:=Tryz.func162.trans (congrArg some (by kernel_rfl))
 t3:=Tryz.underlying3
 a3:=Tryz.isAgg3
 z3:=Tryz.sizeOf3
 v3:=Tryz.zeroValue3
 t5:=Tryz.underlying5
 a5:=Tryz.isAgg5
 z5:=Tryz.sizeOf5
 v5:=Tryz.zeroValue5
 t9:=Tryz.underlying9
 a9:=Tryz.isAgg9
 z9:=Tryz.sizeOf9
 v9:=Tryz.zeroValue9 }
open Go.RowKit in
theorem Tryz.strings_IndexByte (s:ByteArray) (c:Int) (w:World):
  Calls Tryz.prog 47 #[.string s,.int .u8 c] w fun e w'=>e= .returned (.int .i64 (Lib.indexByte s.data.toList c.toNat.toUInt8))/\w'=w:=Any.strings_IndexByte Tryz.lays137 s c w
def Tryz.lays210_ren:Go.Shelf.Ren:=⟨fun | 210=>275 | 206=>185 | n=>n,fun | 9=>9 | 4=>4 | 3=>3 | n=>n,fun | n=>n⟩
def Tryz.lays103_ren:Go.Shelf.Ren:=⟨fun | 103=>218 | 210=>275 | 206=>185 | n=>n,fun | 9=>9 | 4=>4 | 24=>68 | 3=>3 | n=>n,fun | n=>n⟩
theorem Tryz.lays103:Go.Proofs.Lays.n103 Tryz.prog Tryz.lays103_ren:={
 mixed:=by kernel_rfl
 f103:=Tryz.func218.trans (congrArg some (by kernel_rfl))
 f206:=Tryz.func185.trans (congrArg some (by kernel_rfl))
 f210:=Tryz.func275.trans (congrArg some (by kernel_rfl))
 t3:=Tryz.underlying3
 a3:=Tryz.isAgg3
 z3:=Tryz.sizeOf3
 v3:=Tryz.zeroValue3
 t4:=Tryz.underlying4
 a4:=Tryz.isAgg4
 z4:=Tryz.sizeOf4
 v4:=Tryz.zeroValue4
 t9:=Tryz.underlying9
 a9:=Tryz.isAgg9
 z9:=Tryz.sizeOf9
 v9:=Tryz.zeroValue9
 t24:=Tryz.underlying68
 a24:=Tryz.isAgg68
 z24:=Tryz.sizeOf68
 v24:=Tryz.zeroValue68 }
open Go.RowKit in
theorem Tryz.strings_CutPrefix (s p:ByteArray) (w:World):
  Calls Tryz.prog 218 #[.string s,.string p] w fun e w'=>e= .returned (.tuple #[.string ⟨(Lib.trimPrefix s.data.toList p.data.toList).toArray⟩,.bool (Lib.hasPrefix s.data.toList p.data.toList)])/\w'=w:=Any.strings_CutPrefix Tryz.lays103 s p w
def Tryz.lays104_ren:Go.Shelf.Ren:=⟨fun | 104=>219 | 211=>276 | 207=>186 | n=>n,fun | 9=>9 | 4=>4 | 24=>68 | 3=>3 | n=>n,fun | n=>n⟩
theorem Tryz.lays104:Go.Proofs.Lays.n104 Tryz.prog Tryz.lays104_ren:={
 mixed:=by kernel_rfl
 f104:=Tryz.func219.trans (congrArg some (by kernel_rfl))
 f207:=Tryz.func186.trans (congrArg some (by kernel_rfl))
 f211:=Tryz.func276.trans (congrArg some (by kernel_rfl))
 t3:=Tryz.underlying3
 a3:=Tryz.isAgg3
 z3:=Tryz.sizeOf3
 v3:=Tryz.zeroValue3
 t4:=Tryz.underlying4
 a4:=Tryz.isAgg4
 z4:=Tryz.sizeOf4
 v4:=Tryz.zeroValue4
 t9:=Tryz.underlying9
 a9:=Tryz.isAgg9
 z9:=Tryz.sizeOf9
 v9:=Tryz.zeroValue9
 t24:=Tryz.underlying68
 a24:=Tryz.isAgg68
 z24:=Tryz.sizeOf68
 v24:=Tryz.zeroValue68 }
open Go.RowKit in
theorem Tryz.strings_CutSuffix (s p:ByteArray) (w:World) (hs:s.size<=9223372036854775807):
  Calls Tryz.prog 219 #[.string s,.string p] w fun e w'=>e= .returned (.tuple #[.string ⟨(Lib.trimSuffix s.data.toList p.data.toList).toArray⟩,.bool (Lib.hasSuffix s.data.toList p.data.toList)])/\w'=w:=Any.strings_CutSuffix Tryz.lays104 s p w hs
def Tryz.lays318_ren:Go.Shelf.Ren:=⟨fun | 318=>281 | n=>n,fun | 3=>3 | 4=>4 | n=>n,fun | n=>n⟩
def Tryz.laysM246_ren:Go.Shelf.Ren:=⟨fun | 246=>161 | 283=>223 | 284=>224 | 285=>225 | 286=>226 | 129=>280 | 317=>279 | 318=>281 | 319=>282 | 320=>283 | 337=>311 | 338=>312 | n=>n,fun | 2=>2 | 3=>3 | 9=>9 | 4=>4 | 171=>192 | 0=>0 | 53=>161 | 37=>25 | 5=>5 | 173=>195 | 212=>224 | 51=>28 | 20=>20 | 213=>225 | 46=>200 | 232=>251 | 233=>252 | n=>n,fun | 17=>3 | 18=>4 | 19=>5 | n=>n⟩
def Tryz.laysM243_ren:Go.Shelf.Ren:=⟨fun | 243=>94 | 246=>161 | 283=>223 | 284=>224 | 285=>225 | 286=>226 | 129=>280 | 317=>279 | 318=>281 | 319=>282 | 320=>283 | 337=>311 | 338=>312 | n=>n,fun | 3=>3 | 9=>9 | 2=>2 | 4=>4 | 171=>192 | 0=>0 | 53=>161 | 37=>25 | 5=>5 | 173=>195 | 212=>224 | 51=>28 | 20=>20 | 213=>225 | 46=>200 | 232=>251 | 233=>252 | n=>n,fun | 17=>3 | 18=>4 | 19=>5 | n=>n⟩
def Tryz.laysM171_ren:Go.Shelf.Ren:=⟨fun | 171=>45 | 243=>94 | 246=>161 | 283=>223 | 284=>224 | 285=>225 | 286=>226 | 129=>280 | 317=>279 | 318=>281 | 319=>282 | 320=>283 | 337=>311 | 338=>312 | n=>n,fun | 3=>3 | 9=>9 | 2=>2 | 4=>4 | 171=>192 | 0=>0 | 53=>161 | 37=>25 | 5=>5 | 173=>195 | 212=>224 | 51=>28 | 20=>20 | 213=>225 | 46=>200 | 232=>251 | 233=>252 | n=>n,fun | 17=>3 | 18=>4 | 19=>5 | n=>n⟩
theorem Tryz.laysM171:Go.Proofs.LaysM.n171 Tryz.prog Tryz.laysM171_ren:={
 mixed:=by kernel_rfl
 f129:=Tryz.func280.trans (congrArg some (by kernel_rfl))
 f171:=Tryz.func45.trans (congrArg some (by kernel_rfl))
 f243:=Tryz.func94.trans (congrArg some (by kernel_rfl))
 f246:=Tryz.func161.trans (congrArg some (by kernel_rfl))
 f283:=Tryz.func223.trans (congrArg some (by kernel_rfl))
 f284:=Tryz.func224.trans (congrArg some (by kernel_rfl))
 f285:=Tryz.func225.trans (congrArg some (by kernel_rfl))
 f286:=Tryz.func226.trans (congrArg some (by kernel_rfl))
 f317:=Tryz.func279.trans (congrArg some (by kernel_rfl))
 f318:=Tryz.func281.trans (congrArg some (by kernel_rfl))
 f319:=Tryz.func282.trans (congrArg some (by kernel_rfl))
 f320:=Tryz.func283.trans (congrArg some (by kernel_rfl))
 f337:=Tryz.func311.trans (congrArg some (by kernel_rfl))
 f338:=Tryz.func312.trans (congrArg some (by kernel_rfl))
 t0:=Tryz.underlying0
 a0:=Tryz.isAgg0
 z0:=Tryz.sizeOf0
 v0:=Tryz.zeroValue0
 t2:=Tryz.underlying2
 a2:=Tryz.isAgg2
 z2:=Tryz.sizeOf2
 v2:=Tryz.zeroValue2
 t3:=Tryz.underlying3
 a3:=Tryz.isAgg3
 z3:=Tryz.sizeOf3
 v3:=Tryz.zeroValue3
 t4:=Tryz.underlying4
 a4:=Tryz.isAgg4
 z4:=Tryz.sizeOf4
 v4:=Tryz.zeroValue4
 t5:=Tryz.underlying5
 a5:=Tryz.isAgg5
 z5:=Tryz.sizeOf5
 v5:=Tryz.zeroValue5
 t9:=Tryz.underlying9
 a9:=Tryz.isAgg9
 z9:=Tryz.sizeOf9
 v9:=Tryz.zeroValue9
 t20:=Tryz.underlying20
 a20:=Tryz.isAgg20
 z20:=Tryz.sizeOf20
 v20:=Tryz.zeroValue20
 t37:=Tryz.underlying25
 a37:=Tryz.isAgg25
 z37:=Tryz.sizeOf25
 v37:=Tryz.zeroValue25
 t46:=Tryz.underlying200
 a46:=Tryz.isAgg200
 z46:=Tryz.sizeOf200
 v46:=Tryz.zeroValue200
 t51:=Tryz.underlying28
 a51:=Tryz.isAgg28
 z51:=Tryz.sizeOf28
 v51:=Tryz.zeroValue28
 t53:=Tryz.underlying161
 a53:=Tryz.isAgg161
 z53:=Tryz.sizeOf161
 v53:=Tryz.zeroValue161
 t171:=Tryz.underlying192
 a171:=Tryz.isAgg192
 z171:=Tryz.sizeOf192
 v171:=Tryz.zeroValue192
 t173:=Tryz.underlying195
 a173:=Tryz.isAgg195
 z173:=Tryz.sizeOf195
 v173:=Tryz.zeroValue195
 t212:=Tryz.underlying224
 a212:=Tryz.isAgg224
 z212:=Tryz.sizeOf224
 v212:=Tryz.zeroValue224
 t213:=Tryz.underlying225
 a213:=Tryz.isAgg225
 z213:=Tryz.sizeOf225
 t232:=Tryz.underlying251
 a232:=Tryz.isAgg251
 z232:=Tryz.sizeOf251
 v232:=Tryz.zeroValue251
 t233:=Tryz.underlying252
 a233:=Tryz.isAgg252
 z233:=Tryz.sizeOf252
 v233:=Tryz.zeroValue252
 g17:=by kernel_rfl
 g18:=by kernel_rfl
 g19:=by kernel_rfl
 i0:=by kernel_rfl
 i2:=by kernel_rfl
 i3:=by kernel_rfl
 i4:=by kernel_rfl
 i5:=by kernel_rfl
 i9:=by kernel_rfl
 i20:=by kernel_rfl
 i37:=by kernel_rfl
 i46:=by kernel_rfl
 i51:=by kernel_rfl
 i53:=by kernel_rfl
 i171:=by kernel_rfl
 i173:=by kernel_rfl
 i212:=by kernel_rfl
 i232:=by kernel_rfl
 i233:=by kernel_rfl
 m17:=by kernel_rfl
 m18:=by kernel_rfl
 m19:=by kernel_rfl }
open Go.RowKit Go.Sort Go.Lib in
theorem Tryz.strconv_Itoa (n:Int) (h0: -9223372036854775808≤n) (h1:n≤9223372036854775807) (w:World) (htab:Lib.TabIs Tryz.prog w "internal/strconv.uint64pow10" .u64 Lib.pow10Tab):
  Calls Tryz.prog 45 #[.int .i64 n] w fun e w'=>e= .returned (.string ⟨(Lib.itoa n).toArray⟩)/\∃ k os,w'=grow (w.drewN k) os:=Any.strconv_Itoa Tryz.laysM171 n h0 h1 w htab
def Tryz.lays219_ren:Go.Shelf.Ren:=⟨fun | 219=>221 | 217=>95 | 225=>277 | 224=>232 | 267=>278 | 266=>162 | 314=>310 | n=>n,fun | 9=>9 | 3=>3 | 4=>4 | 5=>5 | 46=>200 | 146=>228 | 51=>28 | n=>n,fun | 1=>0 | n=>n⟩
theorem Tryz.lays219:Go.Proofs.Lays.n219 Tryz.prog Tryz.lays219_ren:={
 mixed:=by kernel_rfl
 f217:=Tryz.func95.trans (congrArg some (by kernel_rfl))
 f219:=Tryz.func221.trans (congrArg some (by kernel_rfl))
 f224:=Tryz.func232.trans (congrArg some (by kernel_rfl))
 f225:=Tryz.func277.trans (congrArg some (by kernel_rfl))
 f266:=Tryz.func162.trans (congrArg some (by kernel_rfl))
 f267:=Tryz.func278.trans (congrArg some (by kernel_rfl))
 f314:=Tryz.func310.trans (congrArg some (by kernel_rfl))
 t3:=Tryz.underlying3
 a3:=Tryz.isAgg3
 z3:=Tryz.sizeOf3
 v3:=Tryz.zeroValue3
 t4:=Tryz.underlying4
 a4:=Tryz.isAgg4
 z4:=Tryz.sizeOf4
 v4:=Tryz.zeroValue4
 t5:=Tryz.underlying5
 a5:=Tryz.isAgg5
 z5:=Tryz.sizeOf5
 v5:=Tryz.zeroValue5
 t9:=Tryz.underlying9
 a9:=Tryz.isAgg9
 z9:=Tryz.sizeOf9
 v9:=Tryz.zeroValue9
 t46:=Tryz.underlying200
 a46:=Tryz.isAgg200
 z46:=Tryz.sizeOf200
 v46:=Tryz.zeroValue200
 t51:=Tryz.underlying28
 a51:=Tryz.isAgg28
 z51:=Tryz.sizeOf28
 v51:=Tryz.zeroValue28
 t146:=Tryz.underlying228
 a146:=Tryz.isAgg228
 z146:=Tryz.sizeOf228
 v146:=Tryz.zeroValue228
 g1:=by kernel_rfl }
open Go.RowKit Go.Lib in
theorem Tryz.stringslite_Index_one (s:ByteArray) (c:UInt8) (w:World):
  Calls Tryz.prog 221 #[.string s,.string ⟨#[c]⟩] w fun e w'=>e= .returned (.int .i64 (Lib.indexByte s.data.toList c))/\w'=w:=Any.stringslite_Index_one Tryz.lays219 s c w
def Tryz.lays145_ren:Go.Shelf.Ren:=⟨fun | 145=>87 | 220=>153 | 219=>221 | 217=>95 | 225=>277 | 224=>232 | 267=>278 | 266=>162 | 314=>310 | n=>n,fun | 9=>9 | 4=>4 | 59=>115 | 3=>3 | 5=>5 | 46=>200 | 146=>228 | 51=>28 | n=>n,fun | 1=>0 | n=>n⟩
theorem Tryz.lays145:Go.Proofs.Lays.n145 Tryz.prog Tryz.lays145_ren:={
 mixed:=by kernel_rfl
 f145:=Tryz.func87.trans (congrArg some (by kernel_rfl))
 f217:=Tryz.func95.trans (congrArg some (by kernel_rfl))
 f219:=Tryz.func221.trans (congrArg some (by kernel_rfl))
 f220:=Tryz.func153.trans (congrArg some (by kernel_rfl))
 f224:=Tryz.func232.trans (congrArg some (by kernel_rfl))
 f225:=Tryz.func277.trans (congrArg some (by kernel_rfl))
 f266:=Tryz.func162.trans (congrArg some (by kernel_rfl))
 f267:=Tryz.func278.trans (congrArg some (by kernel_rfl))
 f314:=Tryz.func310.trans (congrArg some (by kernel_rfl))
 t3:=Tryz.underlying3
 a3:=Tryz.isAgg3
 z3:=Tryz.sizeOf3
 v3:=Tryz.zeroValue3
 t4:=Tryz.underlying4
 a4:=Tryz.isAgg4
 z4:=Tryz.sizeOf4
 v4:=Tryz.zeroValue4
 t5:=Tryz.underlying5
 a5:=Tryz.isAgg5
 z5:=Tryz.sizeOf5
 v5:=Tryz.zeroValue5
 t9:=Tryz.underlying9
 a9:=Tryz.isAgg9
 z9:=Tryz.sizeOf9
 v9:=Tryz.zeroValue9
 t46:=Tryz.underlying200
 a46:=Tryz.isAgg200
 z46:=Tryz.sizeOf200
 v46:=Tryz.zeroValue200
 t51:=Tryz.underlying28
 a51:=Tryz.isAgg28
 z51:=Tryz.sizeOf28
 v51:=Tryz.zeroValue28
 t59:=Tryz.underlying115
 a59:=Tryz.isAgg115
 z59:=Tryz.sizeOf115
 v59:=Tryz.zeroValue115
 t146:=Tryz.underlying228
 a146:=Tryz.isAgg228
 z146:=Tryz.sizeOf228
 v146:=Tryz.zeroValue228
 g1:=by kernel_rfl }
open Go.RowKit Go.Lib in
theorem Tryz.strings_Cut (s sep:ByteArray) (m:Int) (w:World) (hs:s.size<4294967281) (hm:w.cell? ⟨0,0,none⟩=some (.int .i64 m)):
  Calls Tryz.prog 87 #[.string s,.string sep] w fun e w'=>e= .returned (.tuple #[.string ⟨(Lib.cut s.data.toList sep.data.toList).1.toArray⟩,.string ⟨(Lib.cut s.data.toList sep.data.toList).2.1.toArray⟩,.bool (Lib.cut s.data.toList sep.data.toList).2.2])/\∃ n,w'=w.drewN n:=Any.strings_Cut Tryz.lays145 s sep m w hs hm
def Tryz.lays149_ren:Go.Shelf.Ren:=⟨fun | 149=>272 | 222=>308 | n=>n,fun | 9=>9 | 5=>5 | 3=>3 | 4=>4 | n=>n,fun | n=>n⟩
theorem Tryz.lays149:Go.Proofs.Lays.n149 Tryz.prog Tryz.lays149_ren:={
 mixed:=by kernel_rfl
 f149:=Tryz.func272.trans (congrArg some (by kernel_rfl))
 f222:=Tryz.func308.trans (congrArg some (by kernel_rfl))
 t3:=Tryz.underlying3
 a3:=Tryz.isAgg3
 z3:=Tryz.sizeOf3
 v3:=Tryz.zeroValue3
 t4:=Tryz.underlying4
 a4:=Tryz.isAgg4
 z4:=Tryz.sizeOf4
 v4:=Tryz.zeroValue4
 t5:=Tryz.underlying5
 a5:=Tryz.isAgg5
 z5:=Tryz.sizeOf5
 v5:=Tryz.zeroValue5
 t9:=Tryz.underlying9
 a9:=Tryz.isAgg9
 z9:=Tryz.sizeOf9
 v9:=Tryz.zeroValue9 }
open Go.RowKit Go.Lib in
theorem Tryz.strings_LastIndexByte (s:ByteArray) (c:Int) (hs:s.size<4611686018427387904) (w:World):
  Calls Tryz.prog 272 #[.string s,.int .u8 c] w fun e w'=>e= .returned (.int .i64 (Lib.lastIndexByte s c))/\w'=w:=Any.strings_LastIndexByte Tryz.lays149 s c hs w
def Tryz.laysM288_ren:Go.Shelf.Ren:=⟨fun | 288=>222 | 283=>223 | 284=>224 | 285=>225 | 286=>226 | 129=>280 | 317=>279 | 318=>281 | 319=>282 | 320=>283 | 337=>311 | 338=>312 | n=>n,fun | 37=>25 | 53=>161 | 3=>3 | 4=>4 | 9=>9 | 171=>192 | 0=>0 | 173=>195 | 212=>224 | 51=>28 | 5=>5 | 20=>20 | 213=>225 | 46=>200 | 232=>251 | 233=>252 | n=>n,fun | 17=>3 | 18=>4 | 19=>5 | n=>n⟩
theorem Tryz.laysM288:Go.Proofs.LaysM.n288 Tryz.prog Tryz.laysM288_ren:={
 mixed:=by kernel_rfl
 f129:=Tryz.func280.trans (congrArg some (by kernel_rfl))
 f283:=Tryz.func223.trans (congrArg some (by kernel_rfl))
 f284:=Tryz.func224.trans (congrArg some (by kernel_rfl))
 f285:=Tryz.func225.trans (congrArg some (by kernel_rfl))
 f286:=Tryz.func226.trans (congrArg some (by kernel_rfl))
 f288:=Tryz.func222.trans (congrArg some (by kernel_rfl))
 f317:=Tryz.func279.trans (congrArg some (by kernel_rfl))
 f318:=Tryz.func281.trans (congrArg some (by kernel_rfl))
 f319:=Tryz.func282.trans (congrArg some (by kernel_rfl))
 f320:=Tryz.func283.trans (congrArg some (by kernel_rfl))
 f337:=Tryz.func311.trans (congrArg some (by kernel_rfl))
 f338:=Tryz.func312.trans (congrArg some (by kernel_rfl))
 t0:=Tryz.underlying0
 a0:=Tryz.isAgg0
 z0:=Tryz.sizeOf0
 v0:=Tryz.zeroValue0
 t3:=Tryz.underlying3
 a3:=Tryz.isAgg3
 z3:=Tryz.sizeOf3
 v3:=Tryz.zeroValue3
 t4:=Tryz.underlying4
 a4:=Tryz.isAgg4
 z4:=Tryz.sizeOf4
 v4:=Tryz.zeroValue4
 t5:=Tryz.underlying5
 a5:=Tryz.isAgg5
 z5:=Tryz.sizeOf5
 v5:=Tryz.zeroValue5
 t9:=Tryz.underlying9
 a9:=Tryz.isAgg9
 z9:=Tryz.sizeOf9
 v9:=Tryz.zeroValue9
 t20:=Tryz.underlying20
 a20:=Tryz.isAgg20
 z20:=Tryz.sizeOf20
 v20:=Tryz.zeroValue20
 t37:=Tryz.underlying25
 a37:=Tryz.isAgg25
 z37:=Tryz.sizeOf25
 v37:=Tryz.zeroValue25
 t46:=Tryz.underlying200
 a46:=Tryz.isAgg200
 z46:=Tryz.sizeOf200
 v46:=Tryz.zeroValue200
 t51:=Tryz.underlying28
 a51:=Tryz.isAgg28
 z51:=Tryz.sizeOf28
 v51:=Tryz.zeroValue28
 t53:=Tryz.underlying161
 a53:=Tryz.isAgg161
 z53:=Tryz.sizeOf161
 v53:=Tryz.zeroValue161
 t171:=Tryz.underlying192
 a171:=Tryz.isAgg192
 z171:=Tryz.sizeOf192
 v171:=Tryz.zeroValue192
 t173:=Tryz.underlying195
 a173:=Tryz.isAgg195
 z173:=Tryz.sizeOf195
 v173:=Tryz.zeroValue195
 t212:=Tryz.underlying224
 a212:=Tryz.isAgg224
 z212:=Tryz.sizeOf224
 v212:=Tryz.zeroValue224
 t213:=Tryz.underlying225
 a213:=Tryz.isAgg225
 z213:=Tryz.sizeOf225
 t232:=Tryz.underlying251
 a232:=Tryz.isAgg251
 z232:=Tryz.sizeOf251
 v232:=Tryz.zeroValue251
 t233:=Tryz.underlying252
 a233:=Tryz.isAgg252
 z233:=Tryz.sizeOf252
 v233:=Tryz.zeroValue252
 g17:=by kernel_rfl
 g18:=by kernel_rfl
 g19:=by kernel_rfl
 i0:=by kernel_rfl
 i3:=by kernel_rfl
 i4:=by kernel_rfl
 i5:=by kernel_rfl
 i9:=by kernel_rfl
 i20:=by kernel_rfl
 i37:=by kernel_rfl
 i46:=by kernel_rfl
 i51:=by kernel_rfl
 i53:=by kernel_rfl
 i171:=by kernel_rfl
 i173:=by kernel_rfl
 i212:=by kernel_rfl
 i232:=by kernel_rfl
 i233:=by kernel_rfl
 m17:=by kernel_rfl
 m18:=by kernel_rfl
 m19:=by kernel_rfl }
open Go.RowKit Go.Sort Go.Lib in
theorem Tryz.internal_strconv_AppendUint_10 (B n u:Nat) (hu64:u<18446744073709551616) (sv:Value) (xs:List Value) (w:World) (hown:w.ownsRow B 5 1 sv n xs) (hBw:B≤w.heap.size) (hlim:n+20≤140737488355328) (htab:Lib.TabIs Tryz.prog w "internal/strconv.uint64pow10" .u64 Lib.pow10Tab):
  Calls Tryz.prog 222 #[sv,.int .u64 u,.int .i64 10] w fun e w'=>∃ v',e= .returned v'/\w'.ownsRow B 5 1 v' (n+(Lib.decDigits u).length) (xs++Lib.byteCells (Lib.decDigits u))/\Below B w w'/\Lib.OthersKept 5 none w w':=Any.internal_strconv_AppendUint_10 Tryz.laysM288 B n u hu64 sv xs w hown hBw hlim htab
def Tryz.lays99_ren:Go.Shelf.Ren:=⟨fun | 99=>111 | 206=>185 | n=>n,fun | 9=>9 | 4=>4 | 3=>3 | n=>n,fun | n=>n⟩
theorem Tryz.lays99:Go.Proofs.Lays.n99 Tryz.prog Tryz.lays99_ren:={
 mixed:=by kernel_rfl
 f99:=Tryz.func111.trans (congrArg some (by kernel_rfl))
 f206:=Tryz.func185.trans (congrArg some (by kernel_rfl))
 t3:=Tryz.underlying3
 a3:=Tryz.isAgg3
 z3:=Tryz.sizeOf3
 v3:=Tryz.zeroValue3
 t4:=Tryz.underlying4
 a4:=Tryz.isAgg4
 z4:=Tryz.sizeOf4
 v4:=Tryz.zeroValue4
 t9:=Tryz.underlying9
 a9:=Tryz.isAgg9
 z9:=Tryz.sizeOf9
 v9:=Tryz.zeroValue9 }
open Go.RowKit Go.Lib in
theorem Tryz.strings_HasPrefix (s p:ByteArray) (w:World):
  Calls Tryz.prog 111 #[.string s,.string p] w fun e w'=>e= .returned (.bool (Lib.hasPrefix s.data.toList p.data.toList))/\w'=w:=Any.strings_HasPrefix Tryz.lays99 s p w
def Tryz.lays100_ren:Go.Shelf.Ren:=⟨fun | 100=>112 | 207=>186 | n=>n,fun | 9=>9 | 4=>4 | 3=>3 | n=>n,fun | n=>n⟩
theorem Tryz.lays100:Go.Proofs.Lays.n100 Tryz.prog Tryz.lays100_ren:={
 mixed:=by kernel_rfl
 f100:=Tryz.func112.trans (congrArg some (by kernel_rfl))
 f207:=Tryz.func186.trans (congrArg some (by kernel_rfl))
 t3:=Tryz.underlying3
 a3:=Tryz.isAgg3
 z3:=Tryz.sizeOf3
 v3:=Tryz.zeroValue3
 t4:=Tryz.underlying4
 a4:=Tryz.isAgg4
 z4:=Tryz.sizeOf4
 v4:=Tryz.zeroValue4
 t9:=Tryz.underlying9
 a9:=Tryz.isAgg9
 z9:=Tryz.sizeOf9
 v9:=Tryz.zeroValue9 }
open Go.RowKit Go.Lib in
theorem Tryz.strings_HasSuffix (s p:ByteArray) (w:World) (hs:s.size<=9223372036854775807):
  Calls Tryz.prog 112 #[.string s,.string p] w fun e w'=>e= .returned (.bool (Lib.hasSuffix s.data.toList p.data.toList))/\w'=w:=Any.strings_HasSuffix Tryz.lays100 s p w hs
def Tryz.lays101_ren:Go.Shelf.Ren:=⟨fun | 101=>183 | 208=>247 | 206=>185 | n=>n,fun | 9=>9 | 4=>4 | 3=>3 | n=>n,fun | n=>n⟩
theorem Tryz.lays101:Go.Proofs.Lays.n101 Tryz.prog Tryz.lays101_ren:={
 mixed:=by kernel_rfl
 f101:=Tryz.func183.trans (congrArg some (by kernel_rfl))
 f206:=Tryz.func185.trans (congrArg some (by kernel_rfl))
 f208:=Tryz.func247.trans (congrArg some (by kernel_rfl))
 t3:=Tryz.underlying3
 a3:=Tryz.isAgg3
 z3:=Tryz.sizeOf3
 v3:=Tryz.zeroValue3
 t4:=Tryz.underlying4
 a4:=Tryz.isAgg4
 z4:=Tryz.sizeOf4
 v4:=Tryz.zeroValue4
 t9:=Tryz.underlying9
 a9:=Tryz.isAgg9
 z9:=Tryz.sizeOf9
 v9:=Tryz.zeroValue9 }
open Go.RowKit Go.Lib in
theorem Tryz.strings_TrimPrefix (s p:ByteArray) (w:World):
  Calls Tryz.prog 183 #[.string s,.string p] w fun e w'=>e= .returned (.string ⟨(Lib.trimPrefix s.data.toList p.data.toList).toArray⟩)/\w'=w:=Any.strings_TrimPrefix Tryz.lays101 s p w
def Tryz.lays221_ren:Go.Shelf.Ren:=⟨fun | 221=>350 | 268=>358 | 138=>359 | 143=>360 | 195=>284 | 197=>294 | 218=>368 | 219=>221 | 260=>318 | 217=>95 | 225=>277 | 224=>232 | 267=>278 | 266=>162 | 314=>310 | n=>n,fun | 9=>9 | 3=>3 | 31=>22 | 4=>4 | 0=>0 | 105=>121 | 21=>21 | 5=>5 | 46=>200 | 119=>201 | 139=>204 | 138=>203 | 146=>228 | 51=>28 | n=>n,fun | 1=>0 | 3=>1 | 4=>2 | n=>n⟩
def Tryz.lays146_ren:Go.Shelf.Ren:=⟨fun | 146=>339 | 221=>350 | 268=>358 | 138=>359 | 143=>360 | 195=>284 | 197=>294 | 218=>368 | 219=>221 | 260=>318 | 217=>95 | 225=>277 | 224=>232 | 267=>278 | 266=>162 | 314=>310 | n=>n,fun | 9=>9 | 31=>22 | 3=>3 | 4=>4 | 0=>0 | 105=>121 | 21=>21 | 5=>5 | 46=>200 | 119=>201 | 139=>204 | 138=>203 | 146=>228 | 51=>28 | n=>n,fun | 1=>0 | 3=>1 | 4=>2 | n=>n⟩
theorem Tryz.lays146:Go.Proofs.Lays.n146 Tryz.prog Tryz.lays146_ren:={
 mixed:=by kernel_rfl
 f138:=Tryz.func359.trans (congrArg some (by kernel_rfl))
 f143:=Tryz.func360.trans (congrArg some (by kernel_rfl))
 f146:=Tryz.func339.trans (congrArg some (by kernel_rfl))
 f195:=Tryz.func284.trans (congrArg some (by kernel_rfl))
 f197:=Tryz.func294.trans (congrArg some (by kernel_rfl))
 f217:=Tryz.func95.trans (congrArg some (by kernel_rfl))
 f218:=Tryz.func368.trans (congrArg some (by kernel_rfl))
 f219:=Tryz.func221.trans (congrArg some (by kernel_rfl))
 f221:=Tryz.func350.trans (congrArg some (by kernel_rfl))
 f224:=Tryz.func232.trans (congrArg some (by kernel_rfl))
 f225:=Tryz.func277.trans (congrArg some (by kernel_rfl))
 f260:=Tryz.func318.trans (congrArg some (by kernel_rfl))
 f266:=Tryz.func162.trans (congrArg some (by kernel_rfl))
 f267:=Tryz.func278.trans (congrArg some (by kernel_rfl))
 f268:=Tryz.func358.trans (congrArg some (by kernel_rfl))
 f314:=Tryz.func310.trans (congrArg some (by kernel_rfl))
 t0:=Tryz.underlying0
 a0:=Tryz.isAgg0
 z0:=Tryz.sizeOf0
 v0:=Tryz.zeroValue0
 t3:=Tryz.underlying3
 a3:=Tryz.isAgg3
 z3:=Tryz.sizeOf3
 v3:=Tryz.zeroValue3
 t4:=Tryz.underlying4
 a4:=Tryz.isAgg4
 z4:=Tryz.sizeOf4
 v4:=Tryz.zeroValue4
 t5:=Tryz.underlying5
 a5:=Tryz.isAgg5
 z5:=Tryz.sizeOf5
 v5:=Tryz.zeroValue5
 t9:=Tryz.underlying9
 a9:=Tryz.isAgg9
 z9:=Tryz.sizeOf9
 v9:=Tryz.zeroValue9
 t21:=Tryz.underlying21
 a21:=Tryz.isAgg21
 z21:=Tryz.sizeOf21
 v21:=Tryz.zeroValue21
 t31:=Tryz.underlying22
 a31:=Tryz.isAgg22
 z31:=Tryz.sizeOf22
 v31:=Tryz.zeroValue22
 t46:=Tryz.underlying200
 a46:=Tryz.isAgg200
 z46:=Tryz.sizeOf200
 v46:=Tryz.zeroValue200
 t51:=Tryz.underlying28
 a51:=Tryz.isAgg28
 z51:=Tryz.sizeOf28
 v51:=Tryz.zeroValue28
 t105:=Tryz.underlying121
 a105:=Tryz.isAgg121
 z105:=Tryz.sizeOf121
 v105:=Tryz.zeroValue121
 t119:=Tryz.underlying201
 a119:=Tryz.isAgg201
 z119:=Tryz.sizeOf201
 t138:=Tryz.underlying203
 a138:=Tryz.isAgg203
 z138:=Tryz.sizeOf203
 v138:=Tryz.zeroValue203
 t139:=Tryz.underlying204
 a139:=Tryz.isAgg204
 z139:=Tryz.sizeOf204
 v139:=Tryz.zeroValue204
 t146:=Tryz.underlying228
 a146:=Tryz.isAgg228
 z146:=Tryz.sizeOf228
 v146:=Tryz.zeroValue228
 g1:=by kernel_rfl
 g3:=by kernel_rfl
 g4:=by kernel_rfl }
open Go.RowKit Go.Lib in
theorem Tryz.strings_Split (s sep:ByteArray) (m:Int) (w:World) (hs:s.size<4294967281) (hm:w.cell? ⟨0,0,none⟩=some (.int .i64 m)) (h1:1<=sep.size):
  Calls Tryz.prog 339 #[.string s,.string sep] w fun e w'=>
   e= .returned (.slice (some ⟨w.heap.size,0,none⟩) (Lib.countB s sep+1) (Lib.countB s sep+1))/\w'=w.alloc (.cells ((Lib.splitB sep 0 (Lib.countB s sep) s).map Value.string).toArray 9):=Any.strings_Split Tryz.lays146 (by kernel_rfl) s sep m w hs hm h1
def Tryz.lays152_ren:Go.Shelf.Ren:=⟨fun | 152=>314 | 137=>47 | 119=>331 | 224=>232 | 225=>277 | 217=>95 | 266=>162 | n=>n,fun | 9=>9 | 21=>21 | 3=>3 | 4=>4 | 5=>5 | 0=>0 | 46=>200 | n=>n,fun | n=>n⟩
theorem Tryz.lays152:Go.Proofs.Lays.n152 Tryz.prog Tryz.lays152_ren:={
 mixed:=by kernel_rfl
 f119:=Tryz.func331.trans (congrArg some (by kernel_rfl))
 f137:=Tryz.func47.trans (congrArg some (by kernel_rfl))
 f152:=Tryz.func314.trans (congrArg some (by kernel_rfl))
 f217:=Tryz.func95.trans (congrArg some (by kernel_rfl))
 f224:=Tryz.func232.trans (congrArg some (by kernel_rfl))
 f225:=Tryz.func277.trans (congrArg some (by kernel_rfl))
 f266:=Tryz.func162.trans (congrArg some (by kernel_rfl))
 t0:=Tryz.underlying0
 a0:=Tryz.isAgg0
 z0:=Tryz.sizeOf0
 v0:=Tryz.zeroValue0
 t3:=Tryz.underlying3
 a3:=Tryz.isAgg3
 z3:=Tryz.sizeOf3
 v3:=Tryz.zeroValue3
 t4:=Tryz.underlying4
 a4:=Tryz.isAgg4
 z4:=Tryz.sizeOf4
 v4:=Tryz.zeroValue4
 t5:=Tryz.underlying5
 a5:=Tryz.isAgg5
 z5:=Tryz.sizeOf5
 v5:=Tryz.zeroValue5
 t9:=Tryz.underlying9
 a9:=Tryz.isAgg9
 z9:=Tryz.sizeOf9
 v9:=Tryz.zeroValue9
 t21:=Tryz.underlying21
 a21:=Tryz.isAgg21
 z21:=Tryz.sizeOf21
 v21:=Tryz.zeroValue21
 t46:=Tryz.underlying200
 a46:=Tryz.isAgg200
 z46:=Tryz.sizeOf200
 v46:=Tryz.zeroValue200 }
open Go.RowKit Go.Lib in
theorem Tryz.strings_IndexRune_ascii (s:ByteArray) (r:Int) (w:World) (h0:0<=r) (h1:r<128):
  Calls Tryz.prog 314 #[.string s,.int .i32 r] w fun e w'=>e= .returned (.int .i64 (Lib.indexByte s.data.toList r.toNat.toUInt8))/\w'=w:=Any.strings_IndexRune_ascii Tryz.lays152 s r w h0 h1
def Tryz.lays226_ren:Go.Shelf.Ren:=⟨fun | 226=>332 | n=>n,fun | 3=>3 | 4=>4 | n=>n,fun | n=>n⟩
theorem Tryz.lays226:Go.Proofs.Lays.n226 Tryz.prog Tryz.lays226_ren:={
 mixed:=by kernel_rfl
 f226:=Tryz.func332.trans (congrArg some (by kernel_rfl))
 t3:=Tryz.underlying3
 a3:=Tryz.isAgg3
 z3:=Tryz.sizeOf3
 v3:=Tryz.zeroValue3
 t4:=Tryz.underlying4
 a4:=Tryz.isAgg4
 z4:=Tryz.sizeOf4
 v4:=Tryz.zeroValue4 }
open Go.RowKit Go.Lib in
theorem Tryz.strings_shouldUseASCIISet (n:Int) (w:World):
  Calls Tryz.prog 332 #[.int .i64 n] w fun e w'=>e= .returned (.bool (decide (8<n)))/\w'=w:=Any.strings_shouldUseASCIISet Tryz.lays226 n w
def Tryz.lays227_ren:Go.Shelf.Ren:=⟨fun | 227=>238 | n=>n,fun | 9=>9 | 116=>206 | 4=>4 | 0=>0 | 3=>3 | 5=>5 | n=>n,fun | n=>n⟩
theorem Tryz.lays227:Go.Proofs.Lays.n227 Tryz.prog Tryz.lays227_ren:={
 mixed:=by kernel_rfl
 f227:=Tryz.func238.trans (congrArg some (by kernel_rfl))
 t0:=Tryz.underlying0
 a0:=Tryz.isAgg0
 z0:=Tryz.sizeOf0
 v0:=Tryz.zeroValue0
 t3:=Tryz.underlying3
 a3:=Tryz.isAgg3
 z3:=Tryz.sizeOf3
 v3:=Tryz.zeroValue3
 t4:=Tryz.underlying4
 a4:=Tryz.isAgg4
 z4:=Tryz.sizeOf4
 v4:=Tryz.zeroValue4
 t5:=Tryz.underlying5
 a5:=Tryz.isAgg5
 z5:=Tryz.sizeOf5
 v5:=Tryz.zeroValue5
 t9:=Tryz.underlying9
 a9:=Tryz.isAgg9
 z9:=Tryz.sizeOf9
 v9:=Tryz.zeroValue9
 t116:=Tryz.underlying206
 a116:=Tryz.isAgg206
 z116:=Tryz.sizeOf206 }
open Go.RowKit Go.Lib in
theorem Tryz.strings_makeASCIISet (hv116:∀ w,(zeroValue 206).run Tryz.prog w= .ok (.agg (Array.replicate 256 (.bool false))) w) (chars:ByteArray) (w:World) (hs:chars.size<4294967281) (hascii:∀ (j:Nat) b,chars.data.toList[j]? =some b->b.toNat<128):
  Calls Tryz.prog 238 #[.string chars] w fun e w'=>e= .returned (.tuple #[.agg (Lib.setCells chars.data.toList),.bool true])/\w'=w.alloc (.cells (Lib.setCells chars.data.toList) 206):=Any.strings_makeASCIISet Tryz.lays227 hv116 (by kernel_rfl) chars w hs hascii
def Tryz.lays228_ren:Go.Shelf.Ren:=⟨fun | 228=>289 | n=>n,fun | 124=>210 | 5=>5 | 4=>4 | 0=>0 | 116=>206 | n=>n,fun | n=>n⟩
theorem Tryz.lays228:Go.Proofs.Lays.n228 Tryz.prog Tryz.lays228_ren:={
 mixed:=by kernel_rfl
 f228:=Tryz.func289.trans (congrArg some (by kernel_rfl))
 t0:=Tryz.underlying0
 a0:=Tryz.isAgg0
 z0:=Tryz.sizeOf0
 v0:=Tryz.zeroValue0
 t4:=Tryz.underlying4
 a4:=Tryz.isAgg4
 z4:=Tryz.sizeOf4
 v4:=Tryz.zeroValue4
 t5:=Tryz.underlying5
 a5:=Tryz.isAgg5
 z5:=Tryz.sizeOf5
 v5:=Tryz.zeroValue5
 t116:=Tryz.underlying206
 a116:=Tryz.isAgg206
 z116:=Tryz.sizeOf206
 t124:=Tryz.underlying210
 a124:=Tryz.isAgg210
 z124:=Tryz.sizeOf210
 v124:=Tryz.zeroValue210 }
open Go.RowKit Go.Lib in
theorem Tryz.asciiSet_contains (b:Nat) (x:UInt8) (v:Bool) (w:World) (hc:w.cell? ⟨b,x.toNat,none⟩=some (.bool v)):
  Calls Tryz.prog 289 #[.pointer (some ⟨b,0,none⟩),.int .u8 x.toNat] w fun e w'=>e= .returned (.bool v)/\w'=w:=Any.asciiSet_contains Tryz.lays228 b x v w hc
def Tryz.lays110_ren:Go.Shelf.Ren:=⟨fun | 110=>180 | 109=>246 | n=>n,fun | 31=>22 | 9=>9 | 4=>4 | 3=>3 | 0=>0 | n=>n,fun | n=>n⟩
theorem Tryz.lays110:Go.Proofs.Lays.n110 Tryz.prog Tryz.lays110_ren:={
 mixed:=by kernel_rfl
 f109:=Tryz.func246.trans (congrArg some (by kernel_rfl))
 f110:=Tryz.func180.trans (congrArg some (by kernel_rfl))
 t0:=Tryz.underlying0
 a0:=Tryz.isAgg0
 z0:=Tryz.sizeOf0
 v0:=Tryz.zeroValue0
 t3:=Tryz.underlying3
 a3:=Tryz.isAgg3
 z3:=Tryz.sizeOf3
 v3:=Tryz.zeroValue3
 t4:=Tryz.underlying4
 a4:=Tryz.isAgg4
 z4:=Tryz.sizeOf4
 v4:=Tryz.zeroValue4
 t9:=Tryz.underlying9
 a9:=Tryz.isAgg9
 z9:=Tryz.sizeOf9
 v9:=Tryz.zeroValue9
 t31:=Tryz.underlying22
 a31:=Tryz.isAgg22
 z31:=Tryz.sizeOf22
 v31:=Tryz.zeroValue22 }
open Go.Lib in
theorem Tryz.slices_Contains_string (b off n c:Nat) (zs:List ByteArray) (x:ByteArray) (w:World) (hz:n<=zs.length) (hbig:n<=9223372036854775807) (hc:∀ j,j<zs.length->w.cell? ⟨b,off+j,none⟩=some (.string (zs.getD j ByteArray.empty))):
  Calls Tryz.prog 180 #[.slice (some ⟨b,off,none⟩) n c,.string x] w fun e w'=>e= .returned (.bool (Lib.containsS (zs.take n) x))/\w'=w:=Any.slices_Contains_string Tryz.lays110 b off n c zs x w hz hbig hc
open Go.Lib in
theorem Tryz.slices_Contains_string_empty (a:Option Addr) (c:Nat) (x:ByteArray) (w:World):
  Calls Tryz.prog 180 #[.slice a 0 c,.string x] w fun e w'=>e= .returned (.bool false)/\w'=w:=Any.slices_Contains_string_empty Tryz.lays110 a c x w
def Tryz.lays193_ren:Go.Shelf.Ren:=⟨fun | 193=>101 | n=>n,fun | 31=>22 | 9=>9 | 4=>4 | 3=>3 | 0=>0 | n=>n,fun | n=>n⟩
theorem Tryz.lays193:Go.Proofs.Lays.n193 Tryz.prog Tryz.lays193_ren:={
 mixed:=by kernel_rfl
 f193:=Tryz.func101.trans (congrArg some (by kernel_rfl))
 t0:=Tryz.underlying0
 a0:=Tryz.isAgg0
 z0:=Tryz.sizeOf0
 v0:=Tryz.zeroValue0
 t3:=Tryz.underlying3
 a3:=Tryz.isAgg3
 z3:=Tryz.sizeOf3
 v3:=Tryz.zeroValue3
 t4:=Tryz.underlying4
 a4:=Tryz.isAgg4
 z4:=Tryz.sizeOf4
 v4:=Tryz.zeroValue4
 t9:=Tryz.underlying9
 a9:=Tryz.isAgg9
 z9:=Tryz.sizeOf9
 v9:=Tryz.zeroValue9
 t31:=Tryz.underlying22
 a31:=Tryz.isAgg22
 z31:=Tryz.sizeOf22
 v31:=Tryz.zeroValue22 }
open Go.RowKit Go.Lib in
theorem Tryz.slices_Equal_string (b1 o1 n c b2 o2 m d:Nat) (xs ys:List ByteArray) (w:World) (hx:n<=xs.length) (hy:m<=ys.length) (hbig:n<=9223372036854775807) (hbig2:m<=9223372036854775807) (hc1:∀ j,j<xs.length->w.cell? ⟨b1,o1+j,none⟩=some (.string (xs.getD j ByteArray.empty))) (hc2:∀ j,j<ys.length->w.cell? ⟨b2,o2+j,none⟩=some (.string (ys.getD j ByteArray.empty))):
  Calls Tryz.prog 101 #[.slice (some ⟨b1,o1,none⟩) n c,.slice (some ⟨b2,o2,none⟩) m d] w fun e w'=>e= .returned (.bool (decide (xs.take n=ys.take m)))/\∃ q,w'=w.drewN q:=Any.slices_Equal_string Tryz.lays193 b1 o1 n c b2 o2 m d xs ys w hx hy hbig hbig2 hc1 hc2
open Go.RowKit Go.Lib in
theorem Tryz.slices_Equal_string_empty (a1 a2:Option Addr) (c m d:Nat) (w:World) (hbig2:m<=9223372036854775807):
  Calls Tryz.prog 101 #[.slice a1 0 c,.slice a2 m d] w fun e w'=>e= .returned (.bool (decide (m=0)))/\w'=w:=Any.slices_Equal_string_empty Tryz.lays193 a1 a2 c m d w hbig2
def Tryz.laysNm216_ren:Go.Shelf.Ren:=⟨fun | 16=>104 | n=>n,fun | 24=>22 | 9=>9 | 4=>4 | n=>n,fun | n=>n⟩
theorem Tryz.laysNm216:Go.Proofs.Lays2.n16 Tryz.prog Tryz.laysNm216_ren:={
 mixed:=by kernel_rfl
 f16:=Tryz.func104.trans (congrArg some (by kernel_rfl))
 t4:=Tryz.underlying4
 a4:=Tryz.isAgg4
 z4:=Tryz.sizeOf4
 v4:=Tryz.zeroValue4
 t9:=Tryz.underlying9
 a9:=Tryz.isAgg9
 z9:=Tryz.sizeOf9
 v9:=Tryz.zeroValue9
 t24:=Tryz.underlying22
 a24:=Tryz.isAgg22
 z24:=Tryz.sizeOf22
 v24:=Tryz.zeroValue22
 i9:=by kernel_rfl }
open Go.RowKit Go.Lib in
theorem Tryz.slices_Clone_string (b off n c:Nat) (zs:List ByteArray) (w:World) (hz:n<=zs.length) (hbig:n * 16<=140737488355328) (hc:∀ j,j<zs.length->w.cell? ⟨b,off+j,none⟩=some (.string (zs.getD j ByteArray.empty))):
  Calls Tryz.prog 104 #[.slice (some ⟨b,off,none⟩) n c] w fun e w'=>∃ v',e= .returned v'/\w'.ownsRow w.heap.size 9 1 v' n ((zs.take n).map (Value.string))/\v'≠ .slice none 0 0/\Below w.heap.size w w':=Any.slices_Clone_string Tryz.laysNm216 b off n c zs w hz hbig hc
open Go.RowKit Go.Lib in
theorem Tryz.slices_Clone_string_nil (n c:Nat) (w:World):
  Calls Tryz.prog 104 #[.slice none n c] w fun e w'=>e= .returned (.slice none 0 0)/\w'=w:=Any.slices_Clone_string_nil Tryz.laysNm216 n c w
open Go.RowKit Go.Lib in
theorem Tryz.slices_Clone_string_zero (a:Addr) (c:Nat) (w:World):
  Calls Tryz.prog 104 #[.slice (some a) 0 c] w fun e w'=>∃ v',e= .returned v'/\w'.ownsRow w.heap.size 9 1 v' 0 []/\v'≠ .slice none 0 0/\Below w.heap.size w w':=Any.slices_Clone_string_zero Tryz.laysNm216 a c w
def Tryz.laysSlB13_ren:Go.Shelf.Ren:=⟨fun | 13=>163 | 24=>227 | 25=>228 | 12=>164 | 31=>284 | 19=>229 | 20=>230 | 21=>231 | 22=>232 | 23=>233 | 29=>285 | 30=>286 | n=>n,fun | 22=>25 | 3=>3 | 4=>4 | 0=>0 | 5=>5 | 9=>9 | 33=>200 | 40=>228 | 39=>28 | n=>n,fun | 0=>0 | n=>n⟩
theorem Tryz.laysSlB13:Go.Proofs.SlLaysB.n13 Tryz.prog Tryz.laysSlB13_ren:={
 mixed:=by kernel_rfl
 f13:=Tryz.func163.trans (congrArg some (by kernel_rfl))
 f25:=Tryz.func228.trans (congrArg some (by kernel_rfl))
 t0:=Tryz.underlying0
 a0:=Tryz.isAgg0
 z0:=Tryz.sizeOf0
 v0:=Tryz.zeroValue0
 t3:=Tryz.underlying3
 a3:=Tryz.isAgg3
 z3:=Tryz.sizeOf3
 v3:=Tryz.zeroValue3
 t4:=Tryz.underlying4
 a4:=Tryz.isAgg4
 z4:=Tryz.sizeOf4
 v4:=Tryz.zeroValue4
 t5:=Tryz.underlying5
 a5:=Tryz.isAgg5
 z5:=Tryz.sizeOf5
 v5:=Tryz.zeroValue5
 t22:=Tryz.underlying25
 a22:=Tryz.isAgg25
 z22:=Tryz.sizeOf25
 v22:=Tryz.zeroValue25 }
open Go.RowKit Go.Lib in
theorem Tryz.bytes_Count_one_at (a:Addr) (n c b2 o2 d:Nat) (xs:List Int) (cv:Int) (w:World) (hx:xs.length=n) (hc:∀ i,i<n->w.cell? (a.add i)=some (.int .u8 (xs.getD i 0))) (hc2:w.cell? ⟨b2,o2,none⟩=some (.int .u8 cv)):
  Calls Tryz.prog 163 #[.slice (some a) n c,.slice (some ⟨b2,o2,none⟩) 1 d] w fun e w'=>e= .returned (.int .i64 (Lib.countByte (Lib.bytesOf xs) cv.toNat.toUInt8))/\w'=w:=Any.bytes_Count_one_at Tryz.laysSlB13 a n c b2 o2 d xs cv w hx hc hc2
open Go.RowKit Go.Lib in
theorem Tryz.bytes_Count_one_nil (b2 o2 d:Nat) (cv:Int) (w:World) (hc2:w.cell? ⟨b2,o2,none⟩=some (.int .u8 cv)):
  Calls Tryz.prog 163 #[.slice none 0 0,.slice (some ⟨b2,o2,none⟩) 1 d] w fun e w'=>e= .returned (.int .i64 0)/\w'=w:=Any.bytes_Count_one_nil Tryz.laysSlB13 b2 o2 d cv w hc2
end Go.Proofs
