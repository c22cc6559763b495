/- Part 1: lemmas. -/
import Derived.Test.YtonomfeipkdmhaaGreatDoorL00
import Derived.Ground.Names2Prog
import Derived.Ground.PaProg
import Derived.Ground.SlbNamesProg
import Derived.KernelRfl
import Derived.Shelf.Bytes.IndexByte
import Derived.Shelf.Bytes.SlCountOne
import Derived.Shelf.Bytes.SlCountWhole
import Derived.Shelf.Bytes.SlEqualAll
import Derived.Shelf.Bytes.SlIndexAt
import Derived.Shelf.Bytes.SlIndexSmall
import Derived.Shelf.Bytes.SlIndexWhole
import Derived.Shelf.Bytes.SlSearch0
import Derived.Shelf.Bytes.SlSearch1
import Derived.Shelf.Bytes.SlSearch2
import Derived.Shelf.Bytes.SlSplit
import Derived.Shelf.Bytes.SlSplitNil
import Derived.Shelf.Bytes.Small
import Derived.Shelf.LaysM
import Derived.Shelf.Path.Small
import Derived.Shelf.Slices.Cells
import Derived.Shelf.Slices.Clone
import Derived.Shelf.Slices.Empties2
import Derived.Shelf.Slices.Equal
import Derived.Shelf.Slices.Reverse
import Derived.Shelf.Slices.Turned
import Derived.Shelf.Small.Strs
import Derived.Shelf.Small.Utf8
import Derived.Shelf.Small.Wraps
import Derived.Shelf.Strconv.AppendInt10
import Derived.Shelf.Strconv.AppendUint10
import Derived.Shelf.Strconv.Itoa0
import Derived.Shelf.Strconv.Itoa1
import Derived.Shelf.Strconv.Itoa2
import Derived.Shelf.Strconv.Itoa3
import Derived.Shelf.Strings.AsciiSet
import Derived.Shelf.Strings.Builder1
import Derived.Shelf.Strings.Builder2
import Derived.Shelf.Strings.Builder2Cap
import Derived.Shelf.Strings.BuilderCap
import Derived.Shelf.Strings.BuilderF
import Derived.Shelf.Strings.BuilderK
import Derived.Shelf.Strings.Count
import Derived.Shelf.Strings.Cut
import Derived.Shelf.Strings.Explode
import Derived.Shelf.Strings.IndexAny
import Derived.Shelf.Strings.IndexAnyAll
import Derived.Shelf.Strings.LastIndex
import Derived.Shelf.Strings.OnBuilder
import Derived.Shelf.Strings.Prefix
import Derived.Shelf.Strings.RuneCount
import Derived.Shelf.Strings.Runes
import Derived.Shelf.Strings.Search1
import Derived.Shelf.Strings.Search2
import Derived.Shelf.Strings.Search3
import Derived.Shelf.Strings.Shaped
import Derived.Shelf.Strings.Split
import Derived.Shelf.Strings.SplitShaped
import Derived.Shelf.Strings.Trim
import Derived.Shelf.Unicode.Decode
import Derived.Shelf.Unicode.DecodeAny
import Derived.Shelf.Unicode.DecodeLast
import Derived.Shelf.Unicode.DecodeSlow
import Derived.Shelf.Utf8.RuneCount
import Derived.Test.YtonomfeipkdmhaaGreatDoorProg
set_option linter.unusedVariables false
set_option linter.unusedSimpArgs false
set_option maxRecDepth 100000
set_option maxHeartbeats 16000000
namespace Go.Proofs
open Go.Shelf
def Tryz.lays169_ren:Go.Shelf.Ren:=⟨fun | 169=>42 | n=>n,fun | 70=>74 | 9=>9 | 0=>0 | 72=>76 | 37=>25 | 127=>117 | 3=>3 | 5=>5 | n=>n,fun | n=>n⟩
theorem Tryz.lays169:Go.Proofs.Lays.n169 Tryz.prog Tryz.lays169_ren:={
 mixed:=Qb
 f169:=Tryz.func42.trans (congrArg some Qb)
 t0:=Tryz.underlying0
 a0:=Tryz.isAgg0
 z0:=Tryz.sizeOf0
 v0:=Tryz.zeroValue0
 t3:=Tryz.underlying3
 a3:=Tryz.isAgg3
 z3:=Tryz.sizeOf3
 v3:=Tryz.zeroValue3
 t9:=Tryz.underlying9
 a9:=Tryz.isAgg9
 z9:=Tryz.sizeOf9
 v9:=Tryz.zeroValue9
 t37:=Tryz.underlying25
 a37:=Tryz.isAgg25
 z37:=Tryz.sizeOf25
 v37:=Tryz.zeroValue25
 t70:=Tryz.underlying74
 a70:=Tryz.isAgg74
 z70:=Tryz.sizeOf74
 v70:=Tryz.zeroValue74
 t72:=Tryz.underlying76
 a72:=Tryz.isAgg76
 z72:=Tryz.sizeOf76
 v72:=Tryz.zeroValue76
 t127:=Tryz.underlying117
 a127:=Tryz.isAgg117
 z127:=Tryz.sizeOf117
 v127:=Tryz.zeroValue117 }
theorem Tryz.Builder_Extra_169:Builder.Extra Tryz.prog Tryz.lays169_ren:={
 sizeBuilder:=Qb
 liesBuilder:=Qb
 t5:=Tryz.underlying5
 a5:=Tryz.isAgg5
 z5:=Tryz.sizeOf5
 v5:=Tryz.zeroValue5
 infoByte:=Qb
 cellsByte:=Qb
 sizeByte:=Qb
 neB5:=Qc }
open Go.RowKit in
theorem Tryz.Builder_String_any (B b:Nat) (l:List UInt8) (w:World) (h:Lib.IsBuilder 76 5 B b (Lib.byteCells l) w) (hBw:B<=w.heap.size):
  Calls Tryz.prog 42 #[.pointer (some ⟨b,0,none⟩)] w fun e w'=>e= .returned (.string ⟨l.toArray⟩)/\Below B w w':=Any.Builder_String_any Tryz.lays169 Tryz.Builder_Extra_169 B b l w h hBw
def Tryz.lays156_ren:Go.Shelf.Ren:=⟨fun | 156=>341 | 165=>355 | 166=>40 | 169=>42 | 240=>91 | 241=>367 | 276=>158 | 277=>374 | n=>n,fun | 31=>22 | 9=>9 | 3=>3 | 4=>4 | 0=>0 | 20=>20 | 72=>76 | 76=>80 | 70=>74 | 37=>25 | 75=>79 | 127=>117 | 164=>158 | 5=>5 | 80=>83 | n=>n,fun | n=>n⟩
theorem Tryz.lays156:Go.Proofs.Lays.n156 Tryz.prog Tryz.lays156_ren:={
 mixed:=Qb
 f156:=Tryz.func341.trans (congrArg some Qb)
 f165:=Tryz.func355.trans (congrArg some Qb)
 f166:=Tryz.func40.trans (congrArg some Qb)
 f169:=Tryz.func42.trans (congrArg some Qb)
 f240:=Tryz.func91.trans (congrArg some Qb)
 f241:=Tryz.func367.trans (congrArg some Qb)
 f276:=Tryz.func158.trans (congrArg some Qb)
 f277:=Tryz.func374.trans (congrArg some Qb)
 t0:=Tryz.underlying0
 a0:=Tryz.isAgg0
 z0:=Tryz.sizeOf0
 v0:=Tryz.zeroValue0
 t3:=Tryz.underlying3
 a3:=Tryz.isAgg3
 z3:=Tryz.sizeOf3
 v3:=Tryz.zeroValue3
 t4:=Tryz.underlying4
 a4:=Tryz.isAgg4
 z4:=Tryz.sizeOf4
 v4:=Tryz.zeroValue4
 t9:=Tryz.underlying9
 a9:=Tryz.isAgg9
 z9:=Tryz.sizeOf9
 v9:=Tryz.zeroValue9
 t20:=Tryz.underlying20
 a20:=Tryz.isAgg20
 z20:=Tryz.sizeOf20
 v20:=Tryz.zeroValue20
 t31:=Tryz.underlying22
 a31:=Tryz.isAgg22
 z31:=Tryz.sizeOf22
 v31:=Tryz.zeroValue22
 t37:=Tryz.underlying25
 a37:=Tryz.isAgg25
 z37:=Tryz.sizeOf25
 v37:=Tryz.zeroValue25
 t70:=Tryz.underlying74
 a70:=Tryz.isAgg74
 z70:=Tryz.sizeOf74
 v70:=Tryz.zeroValue74
 t72:=Tryz.underlying76
 a72:=Tryz.isAgg76
 z72:=Tryz.sizeOf76
 v72:=Tryz.zeroValue76
 t75:=Tryz.underlying79
 a75:=Tryz.isAgg79
 z75:=Tryz.sizeOf79
 v75:=Tryz.zeroValue79
 t76:=Tryz.underlying80
 a76:=Tryz.isAgg80
 z76:=Tryz.sizeOf80
 v76:=Tryz.zeroValue80
 t127:=Tryz.underlying117
 a127:=Tryz.isAgg117
 z127:=Tryz.sizeOf117
 v127:=Tryz.zeroValue117
 t164:=Tryz.underlying158
 a164:=Tryz.isAgg158
 z164:=Tryz.sizeOf158
 v164:=Tryz.zeroValue158 }
theorem Tryz.Builder_Extra_156:Builder.Extra Tryz.prog Tryz.lays156_ren:={
 sizeBuilder:=Qb
 liesBuilder:=Qb
 t5:=Tryz.underlying5
 a5:=Tryz.isAgg5
 z5:=Tryz.sizeOf5
 v5:=Tryz.zeroValue5
 infoByte:=Qb
 cellsByte:=Qb
 sizeByte:=Qb
 neB5:=Qc }
open Go.RowKit in
theorem Tryz.strings_Join (bk o c:Nat) (xs:List ByteArray) (sep:ByteArray) (w:World) (hcells:∀ (j:Nat) x,xs[j]? =some x->w.cell? ⟨bk,o+j,none⟩=some (.string x)) (hbk:bk<w.heap.size) (hN:xs.length<=140737488355328) (hcap:xs.length<=c) (hlen:(Lib.join (xs.map (·.data.toList)) sep.data.toList).length<=140737488355328):
  Calls Tryz.prog 341 #[.slice (some ⟨bk,o,none⟩) xs.length c,.string sep] w fun e w'=>e= .returned (.string ⟨(Lib.join (xs.map (·.data.toList)) sep.data.toList).toArray⟩)/\Below w.heap.size w w':=Any.strings_Join Tryz.lays156 Tryz.Builder_Extra_156 bk o c xs sep w hcells hbk hN hcap hlen
def Tryz.lays231_ren:Go.Shelf.Ren:=⟨fun | 231=>243 | n=>n,fun | 9=>9 | 5=>5 | 3=>3 | 4=>4 | n=>n,fun | n=>n⟩
def Tryz.lays161_ren:Go.Shelf.Ren:=⟨fun | 161=>177 | 231=>243 | 227=>238 | 233=>244 | 235=>245 | 228=>289 | 197=>294 | 151=>291 | 260=>318 | 152=>314 | 137=>47 | 119=>331 | 224=>232 | 225=>277 | 217=>95 | 266=>162 | n=>n,fun | 9=>9 | 4=>4 | 3=>3 | 5=>5 | 117=>207 | 116=>206 | 0=>0 | 124=>210 | 105=>121 | 21=>21 | 119=>201 | 46=>200 | 139=>204 | 138=>203 | n=>n,fun | 3=>1 | 4=>2 | n=>n⟩
theorem Tryz.lays161:Go.Proofs.Lays.n161 Tryz.prog Tryz.lays161_ren:={
 mixed:=Qb
 f119:=Tryz.func331.trans (congrArg some Qb)
 f137:=Tryz.func47.trans (congrArg some Qb)
 f151:=Tryz.func291.trans (congrArg some Qb)
 f152:=Tryz.func314.trans (congrArg some Qb)
 f161:=Tryz.func177.trans (congrArg some Qb)
 f197:=Tryz.func294.trans (congrArg some Qb)
 f217:=Tryz.func95.trans (congrArg some Qb)
 f224:=Tryz.func232.trans (congrArg some Qb)
 f225:=Tryz.func277.trans (congrArg some Qb)
 f227:=Tryz.func238.trans (congrArg some Qb)
 f228:=Tryz.func289.trans (congrArg some Qb)
 f231:=Tryz.func243.trans (congrArg some Qb)
 f233:=Tryz.func244.trans (congrArg some Qb)
 f235:=Tryz.func245.trans (congrArg some Qb)
 f260:=Tryz.func318.trans (congrArg some Qb)
 f266:=Tryz.func162.trans (congrArg some Qb)
 t0:=Tryz.underlying0
 a0:=Tryz.isAgg0
 z0:=Tryz.sizeOf0
 v0:=Tryz.zeroValue0
 t3:=Tryz.underlying3
 a3:=Tryz.isAgg3
 z3:=Tryz.sizeOf3
 v3:=Tryz.zeroValue3
 t4:=Tryz.underlying4
 a4:=Tryz.isAgg4
 z4:=Tryz.sizeOf4
 v4:=Tryz.zeroValue4
 t5:=Tryz.underlying5
 a5:=Tryz.isAgg5
 z5:=Tryz.sizeOf5
 v5:=Tryz.zeroValue5
 t9:=Tryz.underlying9
 a9:=Tryz.isAgg9
 z9:=Tryz.sizeOf9
 v9:=Tryz.zeroValue9
 t21:=Tryz.underlying21
 a21:=Tryz.isAgg21
 z21:=Tryz.sizeOf21
 v21:=Tryz.zeroValue21
 t46:=Tryz.underlying200
 a46:=Tryz.isAgg200
 z46:=Tryz.sizeOf200
 v46:=Tryz.zeroValue200
 t105:=Tryz.underlying121
 a105:=Tryz.isAgg121
 z105:=Tryz.sizeOf121
 v105:=Tryz.zeroValue121
 t116:=Tryz.underlying206
 a116:=Tryz.isAgg206
 z116:=Tryz.sizeOf206
 t117:=Tryz.underlying207
 a117:=Tryz.isAgg207
 z117:=Tryz.sizeOf207
 v117:=Tryz.zeroValue207
 t119:=Tryz.underlying201
 a119:=Tryz.isAgg201
 z119:=Tryz.sizeOf201
 t124:=Tryz.underlying210
 a124:=Tryz.isAgg210
 z124:=Tryz.sizeOf210
 v124:=Tryz.zeroValue210
 t138:=Tryz.underlying203
 a138:=Tryz.isAgg203
 z138:=Tryz.sizeOf203
 v138:=Tryz.zeroValue203
 t139:=Tryz.underlying204
 a139:=Tryz.isAgg204
 z139:=Tryz.sizeOf204
 v139:=Tryz.zeroValue204
 g3:=Qb
 g4:=Qb }
open Go.RowKit in
theorem Tryz.strings_TrimLeft_one (s:ByteArray) (c:UInt8) (hc:c.toNat<128) (w:World):
  Calls Tryz.prog 177 #[.string s,.string ⟨#[c]⟩] w fun e w'=>e= .returned (.string ⟨(Lib.trimLeftB s.data.toList c).toArray⟩)/\w'=w:=Any.strings_TrimLeft_one Tryz.lays161 s c hc w
def Tryz.lays162_ren:Go.Shelf.Ren:=⟨fun | 162=>173 | 232=>237 | 227=>238 | 234=>239 | 236=>240 | 228=>289 | 271=>290 | 151=>291 | 120=>313 | 197=>294 | 152=>314 | 260=>318 | 137=>47 | 119=>331 | 224=>232 | 225=>277 | 217=>95 | 266=>162 | n=>n,fun | 9=>9 | 4=>4 | 3=>3 | 5=>5 | 117=>207 | 116=>206 | 0=>0 | 124=>210 | 21=>21 | 105=>121 | 46=>200 | 119=>201 | 139=>204 | 138=>203 | n=>n,fun | 3=>1 | 4=>2 | n=>n⟩
theorem Tryz.lays162:Go.Proofs.Lays.n162 Tryz.prog Tryz.lays162_ren:={
 mixed:=Qb
 f119:=Tryz.func331.trans (congrArg some Qb)
 f120:=Tryz.func313.trans (congrArg some Qb)
 f137:=Tryz.func47.trans (congrArg some Qb)
 f151:=Tryz.func291.trans (congrArg some Qb)
 f152:=Tryz.func314.trans (congrArg some Qb)
 f162:=Tryz.func173.trans (congrArg some Qb)
 f197:=Tryz.func294.trans (congrArg some Qb)
 f217:=Tryz.func95.trans (congrArg some Qb)
 f224:=Tryz.func232.trans (congrArg some Qb)
 f225:=Tryz.func277.trans (congrArg some Qb)
 f227:=Tryz.func238.trans (congrArg some Qb)
 f228:=Tryz.func289.trans (congrArg some Qb)
 f232:=Tryz.func237.trans (congrArg some Qb)
 f234:=Tryz.func239.trans (congrArg some Qb)
 f236:=Tryz.func240.trans (congrArg some Qb)
 f260:=Tryz.func318.trans (congrArg some Qb)
 f266:=Tryz.func162.trans (congrArg some Qb)
 f271:=Tryz.func290.trans (congrArg some Qb)
 t0:=Tryz.underlying0
 a0:=Tryz.isAgg0
 z0:=Tryz.sizeOf0
 v0:=Tryz.zeroValue0
 t3:=Tryz.underlying3
 a3:=Tryz.isAgg3
 z3:=Tryz.sizeOf3
 v3:=Tryz.zeroValue3
 t4:=Tryz.underlying4
 a4:=Tryz.isAgg4
 z4:=Tryz.sizeOf4
 v4:=Tryz.zeroValue4
 t5:=Tryz.underlying5
 a5:=Tryz.isAgg5
 z5:=Tryz.sizeOf5
 v5:=Tryz.zeroValue5
 t9:=Tryz.underlying9
 a9:=Tryz.isAgg9
 z9:=Tryz.sizeOf9
 v9:=Tryz.zeroValue9
 t21:=Tryz.underlying21
 a21:=Tryz.isAgg21
 z21:=Tryz.sizeOf21
 v21:=Tryz.zeroValue21
 t46:=Tryz.underlying200
 a46:=Tryz.isAgg200
 z46:=Tryz.sizeOf200
 v46:=Tryz.zeroValue200
 t105:=Tryz.underlying121
 a105:=Tryz.isAgg121
 z105:=Tryz.sizeOf121
 v105:=Tryz.zeroValue121
 t116:=Tryz.underlying206
 a116:=Tryz.isAgg206
 z116:=Tryz.sizeOf206
 t117:=Tryz.underlying207
 a117:=Tryz.isAgg207
 z117:=Tryz.sizeOf207
 v117:=Tryz.zeroValue207
 t119:=Tryz.underlying201
 a119:=Tryz.isAgg201
 z119:=Tryz.sizeOf201
 t124:=Tryz.underlying210
 a124:=Tryz.isAgg210
 z124:=Tryz.sizeOf210
 v124:=Tryz.zeroValue210
 t138:=Tryz.underlying203
 a138:=Tryz.isAgg203
 z138:=Tryz.sizeOf203
 v138:=Tryz.zeroValue203
 t139:=Tryz.underlying204
 a139:=Tryz.isAgg204
 z139:=Tryz.sizeOf204
 v139:=Tryz.zeroValue204
 g3:=Qb
 g4:=Qb }
open Go.RowKit in
theorem Tryz.strings_TrimRight_one (s:ByteArray) (c:UInt8) (hc:c.toNat<128) (w:World) (hs:s.size<=9223372036854775807):
  Calls Tryz.prog 173 #[.string s,.string ⟨#[c]⟩] w fun e w'=>e= .returned (.string ⟨(Lib.trimRightB s.data.toList c).toArray⟩)/\w'=w:=Any.strings_TrimRight_one Tryz.lays162 s c hc w hs
def Tryz.lays160_ren:Go.Shelf.Ren:=⟨fun | 160=>248 | 232=>237 | 231=>243 | 227=>238 | 234=>239 | 233=>244 | 236=>240 | 235=>245 | 228=>289 | 271=>290 | 151=>291 | 197=>294 | 120=>313 | 152=>314 | 260=>318 | 137=>47 | 119=>331 | 224=>232 | 225=>277 | 217=>95 | 266=>162 | n=>n,fun | 9=>9 | 4=>4 | 3=>3 | 5=>5 | 117=>207 | 116=>206 | 0=>0 | 124=>210 | 21=>21 | 105=>121 | 46=>200 | 119=>201 | 139=>204 | 138=>203 | n=>n,fun | 3=>1 | 4=>2 | n=>n⟩
theorem Tryz.lays160:Go.Proofs.Lays.n160 Tryz.prog Tryz.lays160_ren:={
 mixed:=Qb
 f119:=Tryz.func331.trans (congrArg some Qb)
 f120:=Tryz.func313.trans (congrArg some Qb)
 f137:=Tryz.func47.trans (congrArg some Qb)
 f151:=Tryz.func291.trans (congrArg some Qb)
 f152:=Tryz.func314.trans (congrArg some Qb)
 f160:=Tryz.func248.trans (congrArg some Qb)
 f197:=Tryz.func294.trans (congrArg some Qb)
 f217:=Tryz.func95.trans (congrArg some Qb)
 f224:=Tryz.func232.trans (congrArg some Qb)
 f225:=Tryz.func277.trans (congrArg some Qb)
 f227:=Tryz.func238.trans (congrArg some Qb)
 f228:=Tryz.func289.trans (congrArg some Qb)
 f231:=Tryz.func243.trans (congrArg some Qb)
 f232:=Tryz.func237.trans (congrArg some Qb)
 f233:=Tryz.func244.trans (congrArg some Qb)
 f234:=Tryz.func239.trans (congrArg some Qb)
 f235:=Tryz.func245.trans (congrArg some Qb)
 f236:=Tryz.func240.trans (congrArg some Qb)
 f260:=Tryz.func318.trans (congrArg some Qb)
 f266:=Tryz.func162.trans (congrArg some Qb)
 f271:=Tryz.func290.trans (congrArg some Qb)
 t0:=Tryz.underlying0
 a0:=Tryz.isAgg0
 z0:=Tryz.sizeOf0
 v0:=Tryz.zeroValue0
 t3:=Tryz.underlying3
 a3:=Tryz.isAgg3
 z3:=Tryz.sizeOf3
 v3:=Tryz.zeroValue3
 t4:=Tryz.underlying4
 a4:=Tryz.isAgg4
 z4:=Tryz.sizeOf4
 v4:=Tryz.zeroValue4
 t5:=Tryz.underlying5
 a5:=Tryz.isAgg5
 z5:=Tryz.sizeOf5
 v5:=Tryz.zeroValue5
 t9:=Tryz.underlying9
 a9:=Tryz.isAgg9
 z9:=Tryz.sizeOf9
 v9:=Tryz.zeroValue9
 t21:=Tryz.underlying21
 a21:=Tryz.isAgg21
 z21:=Tryz.sizeOf21
 v21:=Tryz.zeroValue21
 t46:=Tryz.underlying200
 a46:=Tryz.isAgg200
 z46:=Tryz.sizeOf200
 v46:=Tryz.zeroValue200
 t105:=Tryz.underlying121
 a105:=Tryz.isAgg121
 z105:=Tryz.sizeOf121
 v105:=Tryz.zeroValue121
 t116:=Tryz.underlying206
 a116:=Tryz.isAgg206
 z116:=Tryz.sizeOf206
 t117:=Tryz.underlying207
 a117:=Tryz.isAgg207
 z117:=Tryz.sizeOf207
 v117:=Tryz.zeroValue207
 t119:=Tryz.underlying201
 a119:=Tryz.isAgg201
 z119:=Tryz.sizeOf201
 t124:=Tryz.underlying210
 a124:=Tryz.isAgg210
 z124:=Tryz.sizeOf210
 v124:=Tryz.zeroValue210
 t138:=Tryz.underlying203
 a138:=Tryz.isAgg203
 z138:=Tryz.sizeOf203
 v138:=Tryz.zeroValue203
 t139:=Tryz.underlying204
 a139:=Tryz.isAgg204
 z139:=Tryz.sizeOf204
 v139:=Tryz.zeroValue204
 g3:=Qb
 g4:=Qb }
def Tryz.lays119_ren:Go.Shelf.Ren:=⟨fun | 119=>331 | n=>n,fun | 21=>21 | 4=>4 | n=>n,fun | n=>n⟩
theorem Tryz.lays119:Go.Proofs.Lays.n119 Tryz.prog Tryz.lays119_ren:={
 mixed:=Qb
 f119:=Tryz.func331.trans (congrArg some Qb)
 t4:=Tryz.underlying4
 a4:=Tryz.isAgg4
 z4:=Tryz.sizeOf4
 v4:=Tryz.zeroValue4
 t21:=Tryz.underlying21
 a21:=Tryz.isAgg21
 z21:=Tryz.sizeOf21
 v21:=Tryz.zeroValue21 }
theorem Tryz.utf8_ValidRune (r:Int) (w:World):
  Calls Tryz.prog 331 #[.int .i32 r] w fun e w'=>e= .returned (.bool (Lib.validRune r))/\w'=w:=Any.utf8_ValidRune Tryz.lays119 r w
def Tryz.lays137_ren:Go.Shelf.Ren:=⟨fun | 137=>47 | 217=>95 | 266=>162 | n=>n,fun | 9=>9 | 5=>5 | 3=>3 | n=>n,fun | n=>n⟩
theorem Tryz.lays137:Go.Proofs.Lays.n137 Tryz.prog Tryz.lays137_ren:={
 mixed:=Qb
 f137:=Tryz.func47.trans (congrArg some Qb)
 f217:=Tryz.func95.trans (congrArg some Qb)
 f266:=Tryz.func162.trans (congrArg some Qb)
 t3:=Tryz.underlying3
 a3:=Tryz.isAgg3
 z3:=Tryz.sizeOf3
 v3:=Tryz.zeroValue3
 t5:=Tryz.underlying5
 a5:=Tryz.isAgg5
 z5:=Tryz.sizeOf5
 v5:=Tryz.zeroValue5
 t9:=Tryz.underlying9
 a9:=Tryz.isAgg9
 z9:=Tryz.sizeOf9
 v9:=Tryz.zeroValue9 }
open Go.RowKit in
theorem Tryz.strings_IndexByte (s:ByteArray) (c:Int) (w:World):
  Calls Tryz.prog 47 #[.string s,.int .u8 c] w fun e w'=>e= .returned (.int .i64 (Lib.indexByte s.data.toList c.toNat.toUInt8))/\w'=w:=Any.strings_IndexByte Tryz.lays137 s c w
def Tryz.lays210_ren:Go.Shelf.Ren:=⟨fun | 210=>275 | 206=>185 | n=>n,fun | 9=>9 | 4=>4 | 3=>3 | n=>n,fun | n=>n⟩
def Tryz.lays103_ren:Go.Shelf.Ren:=⟨fun | 103=>218 | 210=>275 | 206=>185 | n=>n,fun | 9=>9 | 4=>4 | 24=>68 | 3=>3 | n=>n,fun | n=>n⟩
theorem Tryz.lays103:Go.Proofs.Lays.n103 Tryz.prog Tryz.lays103_ren:={
 mixed:=Qb
 f103:=Tryz.func218.trans (congrArg some Qb)
 f206:=Tryz.func185.trans (congrArg some Qb)
 f210:=Tryz.func275.trans (congrArg some Qb)
 t3:=Tryz.underlying3
 a3:=Tryz.isAgg3
 z3:=Tryz.sizeOf3
 v3:=Tryz.zeroValue3
 t4:=Tryz.underlying4
 a4:=Tryz.isAgg4
 z4:=Tryz.sizeOf4
 v4:=Tryz.zeroValue4
 t9:=Tryz.underlying9
 a9:=Tryz.isAgg9
 z9:=Tryz.sizeOf9
 v9:=Tryz.zeroValue9
 t24:=Tryz.underlying68
 a24:=Tryz.isAgg68
 z24:=Tryz.sizeOf68
 v24:=Tryz.zeroValue68 }
open Go.RowKit in
theorem Tryz.strings_CutPrefix (s p:ByteArray) (w:World):
  Calls Tryz.prog 218 #[.string s,.string p] w fun e w'=>e= .returned (.tuple #[.string ⟨(Lib.trimPrefix s.data.toList p.data.toList).toArray⟩,.bool (Lib.hasPrefix s.data.toList p.data.toList)])/\w'=w:=Any.strings_CutPrefix Tryz.lays103 s p w
def Tryz.lays104_ren:Go.Shelf.Ren:=⟨fun | 104=>219 | 211=>276 | 207=>186 | n=>n,fun | 9=>9 | 4=>4 | 24=>68 | 3=>3 | n=>n,fun | n=>n⟩
theorem Tryz.lays104:Go.Proofs.Lays.n104 Tryz.prog Tryz.lays104_ren:={
 mixed:=Qb
 f104:=Tryz.func219.trans (congrArg some Qb)
 f207:=Tryz.func186.trans (congrArg some Qb)
 f211:=Tryz.func276.trans (congrArg some Qb)
 t3:=Tryz.underlying3
 a3:=Tryz.isAgg3
 z3:=Tryz.sizeOf3
 v3:=Tryz.zeroValue3
 t4:=Tryz.underlying4
 a4:=Tryz.isAgg4
 z4:=Tryz.sizeOf4
 v4:=Tryz.zeroValue4
 t9:=Tryz.underlying9
 a9:=Tryz.isAgg9
 z9:=Tryz.sizeOf9
 v9:=Tryz.zeroValue9
 t24:=Tryz.underlying68
 a24:=Tryz.isAgg68
 z24:=Tryz.sizeOf68
 v24:=Tryz.zeroValue68 }
open Go.RowKit in
theorem Tryz.strings_CutSuffix (s p:ByteArray) (w:World) (hs:s.size<=9223372036854775807):
  Calls Tryz.prog 219 #[.string s,.string p] w fun e w'=>e= .returned (.tuple #[.string ⟨(Lib.trimSuffix s.data.toList p.data.toList).toArray⟩,.bool (Lib.hasSuffix s.data.toList p.data.toList)])/\w'=w:=Any.strings_CutSuffix Tryz.lays104 s p w hs
def Tryz.lays318_ren:Go.Shelf.Ren:=⟨fun | 318=>281 | n=>n,fun | 3=>3 | 4=>4 | n=>n,fun | n=>n⟩
def Tryz.laysM246_ren:Go.Shelf.Ren:=⟨fun | 246=>161 | 283=>223 | 284=>224 | 285=>225 | 286=>226 | 129=>280 | 317=>279 | 318=>281 | 319=>282 | 320=>283 | 337=>311 | 338=>312 | n=>n,fun | 2=>2 | 3=>3 | 9=>9 | 4=>4 | 171=>192 | 0=>0 | 53=>161 | 37=>25 | 5=>5 | 173=>195 | 212=>224 | 51=>28 | 20=>20 | 213=>225 | 46=>200 | 232=>251 | 233=>252 | n=>n,fun | 17=>3 | 18=>4 | 19=>5 | n=>n⟩
def Tryz.laysM243_ren:Go.Shelf.Ren:=⟨fun | 243=>94 | 246=>161 | 283=>223 | 284=>224 | 285=>225 | 286=>226 | 129=>280 | 317=>279 | 318=>281 | 319=>282 | 320=>283 | 337=>311 | 338=>312 | n=>n,fun | 3=>3 | 9=>9 | 2=>2 | 4=>4 | 171=>192 | 0=>0 | 53=>161 | 37=>25 | 5=>5 | 173=>195 | 212=>224 | 51=>28 | 20=>20 | 213=>225 | 46=>200 | 232=>251 | 233=>252 | n=>n,fun | 17=>3 | 18=>4 | 19=>5 | n=>n⟩
def Tryz.laysM171_ren:Go.Shelf.Ren:=⟨fun | 171=>45 | 243=>94 | 246=>161 | 283=>223 | 284=>224 | 285=>225 | 286=>226 | 129=>280 | 317=>279 | 318=>281 | 319=>282 | 320=>283 | 337=>311 | 338=>312 | n=>n,fun | 3=>3 | 9=>9 | 2=>2 | 4=>4 | 171=>192 | 0=>0 | 53=>161 | 37=>25 | 5=>5 | 173=>195 | 212=>224 | 51=>28 | 20=>20 | 213=>225 | 46=>200 | 232=>251 | 233=>252 | n=>n,fun | 17=>3 | 18=>4 | 19=>5 | n=>n⟩
theorem Tryz.laysM171:Go.Proofs.LaysM.n171 Tryz.prog Tryz.laysM171_ren:={
 mixed:=Qb
 f129:=Tryz.func280.trans (congrArg some Qb)
 f171:=Tryz.func45.trans (congrArg some Qb)
 f243:=Tryz.func94.trans (congrArg some Qb)
 f246:=Tryz.func161.trans (congrArg some Qb)
 f283:=Tryz.func223.trans (congrArg some Qb)
 f284:=Tryz.func224.trans (congrArg some Qb)
 f285:=Tryz.func225.trans (congrArg some Qb)
 f286:=Tryz.func226.trans (congrArg some Qb)
 f317:=Tryz.func279.trans (congrArg some Qb)
 f318:=Tryz.func281.trans (congrArg some Qb)
 f319:=Tryz.func282.trans (congrArg some Qb)
 f320:=Tryz.func283.trans (congrArg some Qb)
 f337:=Tryz.func311.trans (congrArg some Qb)
 f338:=Tryz.func312.trans (congrArg some Qb)
 t0:=Tryz.underlying0
 a0:=Tryz.isAgg0
 z0:=Tryz.sizeOf0
 v0:=Tryz.zeroValue0
 t2:=Tryz.underlying2
 a2:=Tryz.isAgg2
 z2:=Tryz.sizeOf2
 v2:=Tryz.zeroValue2
 t3:=Tryz.underlying3
 a3:=Tryz.isAgg3
 z3:=Tryz.sizeOf3
 v3:=Tryz.zeroValue3
 t4:=Tryz.underlying4
 a4:=Tryz.isAgg4
 z4:=Tryz.sizeOf4
 v4:=Tryz.zeroValue4
 t5:=Tryz.underlying5
 a5:=Tryz.isAgg5
 z5:=Tryz.sizeOf5
 v5:=Tryz.zeroValue5
 t9:=Tryz.underlying9
 a9:=Tryz.isAgg9
 z9:=Tryz.sizeOf9
 v9:=Tryz.zeroValue9
 t20:=Tryz.underlying20
 a20:=Tryz.isAgg20
 z20:=Tryz.sizeOf20
 v20:=Tryz.zeroValue20
 t37:=Tryz.underlying25
 a37:=Tryz.isAgg25
 z37:=Tryz.sizeOf25
 v37:=Tryz.zeroValue25
 t46:=Tryz.underlying200
 a46:=Tryz.isAgg200
 z46:=Tryz.sizeOf200
 v46:=Tryz.zeroValue200
 t51:=Tryz.underlying28
 a51:=Tryz.isAgg28
 z51:=Tryz.sizeOf28
 v51:=Tryz.zeroValue28
 t53:=Tryz.underlying161
 a53:=Tryz.isAgg161
 z53:=Tryz.sizeOf161
 v53:=Tryz.zeroValue161
 t171:=Tryz.underlying192
 a171:=Tryz.isAgg192
 z171:=Tryz.sizeOf192
 v171:=Tryz.zeroValue192
 t173:=Tryz.underlying195
 a173:=Tryz.isAgg195
 z173:=Tryz.sizeOf195
 v173:=Tryz.zeroValue195
 t212:=Tryz.underlying224
 a212:=Tryz.isAgg224
 z212:=Tryz.sizeOf224
 v212:=Tryz.zeroValue224
 t213:=Tryz.underlying225
 a213:=Tryz.isAgg225
 z213:=Tryz.sizeOf225
 t232:=Tryz.underlying251
 a232:=Tryz.isAgg251
 z232:=Tryz.sizeOf251
 v232:=Tryz.zeroValue251
 t233:=Tryz.underlying252
 a233:=Tryz.isAgg252
 z233:=Tryz.sizeOf252
 v233:=Tryz.zeroValue252
 g17:=Qb
 g18:=Qb
 g19:=Qb
 i0:=Qb
 i2:=Qb
 i3:=Qb
 i4:=Qb
 i5:=Qb
 i9:=Qb
 i20:=Qb
 i37:=Qb
 i46:=Qb
 i51:=Qb
 i53:=Qb
 i171:=Qb
 i173:=Qb
 i212:=Qb
 i232:=Qb
 i233:=Qb
 m17:=Qb
 m18:=Qb
 m19:=Qb }
open Go.RowKit Go.Sort Go.Lib in
theorem Tryz.strconv_Itoa (n:Int) (h0: -9223372036854775808≤n) (h1:n≤9223372036854775807) (w:World) (htab:Lib.TabIs Tryz.prog w "internal/strconv.uint64pow10" .u64 Lib.pow10Tab):
  Calls Tryz.prog 45 #[.int .i64 n] w fun e w'=>e= .returned (.string ⟨(Lib.itoa n).toArray⟩)/\∃ k os,w'=grow (w.drewN k) os:=Any.strconv_Itoa Tryz.laysM171 n h0 h1 w htab
def Tryz.lays219_ren:Go.Shelf.Ren:=⟨fun | 219=>221 | 217=>95 | 225=>277 | 224=>232 | 267=>278 | 266=>162 | 314=>310 | n=>n,fun | 9=>9 | 3=>3 | 4=>4 | 5=>5 | 46=>200 | 146=>228 | 51=>28 | n=>n,fun | 1=>0 | n=>n⟩
theorem Tryz.lays219:Go.Proofs.Lays.n219 Tryz.prog Tryz.lays219_ren:={
 mixed:=Qb
 f217:=Tryz.func95.trans (congrArg some Qb)
 f219:=Tryz.func221.trans (congrArg some Qb)
 f224:=Tryz.func232.trans (congrArg some Qb)
 f225:=Tryz.func277.trans (congrArg some Qb)
 f266:=Tryz.func162.trans (congrArg some Qb)
 f267:=Tryz.func278.trans (congrArg some Qb)
 f314:=Tryz.func310.trans (congrArg some Qb)
 t3:=Tryz.underlying3
 a3:=Tryz.isAgg3
 z3:=Tryz.sizeOf3
 v3:=Tryz.zeroValue3
 t4:=Tryz.underlying4
 a4:=Tryz.isAgg4
 z4:=Tryz.sizeOf4
 v4:=Tryz.zeroValue4
 t5:=Tryz.underlying5
 a5:=Tryz.isAgg5
 z5:=Tryz.sizeOf5
 v5:=Tryz.zeroValue5
 t9:=Tryz.underlying9
 a9:=Tryz.isAgg9
 z9:=Tryz.sizeOf9
 v9:=Tryz.zeroValue9
 t46:=Tryz.underlying200
 a46:=Tryz.isAgg200
 z46:=Tryz.sizeOf200
 v46:=Tryz.zeroValue200
 t51:=Tryz.underlying28
 a51:=Tryz.isAgg28
 z51:=Tryz.sizeOf28
 v51:=Tryz.zeroValue28
 t146:=Tryz.underlying228
 a146:=Tryz.isAgg228
 z146:=Tryz.sizeOf228
 v146:=Tryz.zeroValue228
 g1:=Qb }
open Go.RowKit Go.Lib in
theorem Tryz.stringslite_Index_one (s:ByteArray) (c:UInt8) (w:World):
  Calls Tryz.prog 221 #[.string s,.string ⟨#[c]⟩] w fun e w'=>e= .returned (.int .i64 (Lib.indexByte s.data.toList c))/\w'=w:=Any.stringslite_Index_one Tryz.lays219 s c w
def Tryz.lays145_ren:Go.Shelf.Ren:=⟨fun | 145=>87 | 220=>153 | 219=>221 | 217=>95 | 225=>277 | 224=>232 | 267=>278 | 266=>162 | 314=>310 | n=>n,fun | 9=>9 | 4=>4 | 59=>115 | 3=>3 | 5=>5 | 46=>200 | 146=>228 | 51=>28 | n=>n,fun | 1=>0 | n=>n⟩
theorem Tryz.lays145:Go.Proofs.Lays.n145 Tryz.prog Tryz.lays145_ren:={
 mixed:=Qb
 f145:=Tryz.func87.trans (congrArg some Qb)
 f217:=Tryz.func95.trans (congrArg some Qb)
 f219:=Tryz.func221.trans (congrArg some Qb)
 f220:=Tryz.func153.trans (congrArg some Qb)
 f224:=Tryz.func232.trans (congrArg some Qb)
 f225:=Tryz.func277.trans (congrArg some Qb)
 f266:=Tryz.func162.trans (congrArg some Qb)
 f267:=Tryz.func278.trans (congrArg some Qb)
 f314:=Tryz.func310.trans (congrArg some Qb)
 t3:=Tryz.underlying3
 a3:=Tryz.isAgg3
 z3:=Tryz.sizeOf3
 v3:=Tryz.zeroValue3
 t4:=Tryz.underlying4
 a4:=Tryz.isAgg4
 z4:=Tryz.sizeOf4
 v4:=Tryz.zeroValue4
 t5:=Tryz.underlying5
 a5:=Tryz.isAgg5
 z5:=Tryz.sizeOf5
 v5:=Tryz.zeroValue5
 t9:=Tryz.underlying9
 a9:=Tryz.isAgg9
 z9:=Tryz.sizeOf9
 v9:=Tryz.zeroValue9
 t46:=Tryz.underlying200
 a46:=Tryz.isAgg200
 z46:=Tryz.sizeOf200
 v46:=Tryz.zeroValue200
 t51:=Tryz.underlying28
 a51:=Tryz.isAgg28
 z51:=Tryz.sizeOf28
 v51:=Tryz.zeroValue28
 t59:=Tryz.underlying115
 a59:=Tryz.isAgg115
 z59:=Tryz.sizeOf115
 v59:=Tryz.zeroValue115
 t146:=Tryz.underlying228
 a146:=Tryz.isAgg228
 z146:=Tryz.sizeOf228
 v146:=Tryz.zeroValue228
 g1:=Qb }
open Go.RowKit Go.Lib in
theorem Tryz.strings_Cut (s sep:ByteArray) (m:Int) (w:World) (hs:s.size<4294967281) (hm:w.cell? ⟨0,0,none⟩=some (.int .i64 m)):
  Calls Tryz.prog 87 #[.string s,.string sep] w fun e w'=>e= .returned (.tuple #[.string ⟨(Lib.cut s.data.toList sep.data.toList).1.toArray⟩,.string ⟨(Lib.cut s.data.toList sep.data.toList).2.1.toArray⟩,.bool (Lib.cut s.data.toList sep.data.toList).2.2])/\∃ n,w'=w.drewN n:=Any.strings_Cut Tryz.lays145 s sep m w hs hm
def Tryz.lays149_ren:Go.Shelf.Ren:=⟨fun | 149=>272 | 222=>308 | n=>n,fun | 9=>9 | 5=>5 | 3=>3 | 4=>4 | n=>n,fun | n=>n⟩
theorem Tryz.lays149:Go.Proofs.Lays.n149 Tryz.prog Tryz.lays149_ren:={
 mixed:=Qb
 f149:=Tryz.func272.trans (congrArg some Qb)
 f222:=Tryz.func308.trans (congrArg some Qb)
 t3:=Tryz.underlying3
 a3:=Tryz.isAgg3
 z3:=Tryz.sizeOf3
 v3:=Tryz.zeroValue3
 t4:=Tryz.underlying4
 a4:=Tryz.isAgg4
 z4:=Tryz.sizeOf4
 v4:=Tryz.zeroValue4
 t5:=Tryz.underlying5
 a5:=Tryz.isAgg5
 z5:=Tryz.sizeOf5
 v5:=Tryz.zeroValue5
 t9:=Tryz.underlying9
 a9:=Tryz.isAgg9
 z9:=Tryz.sizeOf9
 v9:=Tryz.zeroValue9 }
open Go.RowKit Go.Lib in
theorem Tryz.strings_LastIndexByte (s:ByteArray) (c:Int) (hs:s.size<4611686018427387904) (w:World):
  Calls Tryz.prog 272 #[.string s,.int .u8 c] w fun e w'=>e= .returned (.int .i64 (Lib.lastIndexByte s c))/\w'=w:=Any.strings_LastIndexByte Tryz.lays149 s c hs w
def Tryz.laysM288_ren:Go.Shelf.Ren:=⟨fun | 288=>222 | 283=>223 | 284=>224 | 285=>225 | 286=>226 | 129=>280 | 317=>279 | 318=>281 | 319=>282 | 320=>283 | 337=>311 | 338=>312 | n=>n,fun | 37=>25 | 53=>161 | 3=>3 | 4=>4 | 9=>9 | 171=>192 | 0=>0 | 173=>195 | 212=>224 | 51=>28 | 5=>5 | 20=>20 | 213=>225 | 46=>200 | 232=>251 | 233=>252 | n=>n,fun | 17=>3 | 18=>4 | 19=>5 | n=>n⟩
theorem Tryz.laysM288:Go.Proofs.LaysM.n288 Tryz.prog Tryz.laysM288_ren:={
 mixed:=Qb
 f129:=Tryz.func280.trans (congrArg some Qb)
 f283:=Tryz.func223.trans (congrArg some Qb)
 f284:=Tryz.func224.trans (congrArg some Qb)
 f285:=Tryz.func225.trans (congrArg some Qb)
 f286:=Tryz.func226.trans (congrArg some Qb)
 f288:=Tryz.func222.trans (congrArg some Qb)
 f317:=Tryz.func279.trans (congrArg some Qb)
 f318:=Tryz.func281.trans (congrArg some Qb)
 f319:=Tryz.func282.trans (congrArg some Qb)
 f320:=Tryz.func283.trans (congrArg some Qb)
 f337:=Tryz.func311.trans (congrArg some Qb)
 f338:=Tryz.func312.trans (congrArg some Qb)
 t0:=Tryz.underlying0
 a0:=Tryz.isAgg0
 z0:=Tryz.sizeOf0
 v0:=Tryz.zeroValue0
 t3:=Tryz.underlying3
 a3:=Tryz.isAgg3
 z3:=Tryz.sizeOf3
 v3:=Tryz.zeroValue3
 t4:=Tryz.underlying4
 a4:=Tryz.isAgg4
 z4:=Tryz.sizeOf4
 v4:=Tryz.zeroValue4
 t5:=Tryz.underlying5
 a5:=Tryz.isAgg5
 z5:=Tryz.sizeOf5
 v5:=Tryz.zeroValue5
 t9:=Tryz.underlying9
 a9:=Tryz.isAgg9
 z9:=Tryz.sizeOf9
 v9:=Tryz.zeroValue9
 t20:=Tryz.underlying20
 a20:=Tryz.isAgg20
 z20:=Tryz.sizeOf20
 v20:=Tryz.zeroValue20
 t37:=Tryz.underlying25
 a37:=Tryz.isAgg25
 z37:=Tryz.sizeOf25
 v37:=Tryz.zeroValue25
 t46:=Tryz.underlying200
 a46:=Tryz.isAgg200
 z46:=Tryz.sizeOf200
 v46:=Tryz.zeroValue200
 t51:=Tryz.underlying28
 a51:=Tryz.isAgg28
 z51:=Tryz.sizeOf28
 v51:=Tryz.zeroValue28
 t53:=Tryz.underlying161
 a53:=Tryz.isAgg161
 z53:=Tryz.sizeOf161
 v53:=Tryz.zeroValue161
 t171:=Tryz.underlying192
 a171:=Tryz.isAgg192
 z171:=Tryz.sizeOf192
 v171:=Tryz.zeroValue192
 t173:=Tryz.underlying195
 a173:=Tryz.isAgg195
 z173:=Tryz.sizeOf195
 v173:=Tryz.zeroValue195
 t212:=Tryz.underlying224
 a212:=Tryz.isAgg224
 z212:=Tryz.sizeOf224
 v212:=Tryz.zeroValue224
 t213:=Tryz.underlying225
 a213:=Tryz.isAgg225
 z213:=Tryz.sizeOf225
 t232:=Tryz.underlying251
 a232:=Tryz.isAgg251
 z232:=Tryz.sizeOf251
 v232:=Tryz.zeroValue251
 t233:=Tryz.underlying252
 a233:=Tryz.isAgg252
 z233:=Tryz.sizeOf252
 v233:=Tryz.zeroValue252
 g17:=Qb
 g18:=Qb
 g19:=Qb
 i0:=Qb
 i3:=Qb
 i4:=Qb
 i5:=Qb
 i9:=Qb
 i20:=Qb
 i37:=Qb
 i46:=Qb
 i51:=Qb
 i53:=Qb
 i171:=Qb
 i173:=Qb
 i212:=Qb
 i232:=Qb
 i233:=Qb
 m17:=Qb
 m18:=Qb
 m19:=Qb }
open Go.RowKit Go.Sort Go.Lib in
theorem Tryz.internal_strconv_AppendUint_10 (B n u:Nat) (hu64:u<18446744073709551616) (sv:Value) (xs:List Value) (w:World) (hown:w.ownsRow B 5 1 sv n xs) (hBw:B≤w.heap.size) (hlim:n+20≤140737488355328) (htab:Lib.TabIs Tryz.prog w "internal/strconv.uint64pow10" .u64 Lib.pow10Tab):
  Calls Tryz.prog 222 #[sv,.int .u64 u,.int .i64 10] w fun e w'=>∃ v',e= .returned v'/\w'.ownsRow B 5 1 v' (n+(Lib.decDigits u).length) (xs++Lib.byteCells (Lib.decDigits u))/\Below B w w'/\Lib.OthersKept 5 none w w':=Any.internal_strconv_AppendUint_10 Tryz.laysM288 B n u hu64 sv xs w hown hBw hlim htab
def Tryz.lays99_ren:Go.Shelf.Ren:=⟨fun | 99=>111 | 206=>185 | n=>n,fun | 9=>9 | 4=>4 | 3=>3 | n=>n,fun | n=>n⟩
theorem Tryz.lays99:Go.Proofs.Lays.n99 Tryz.prog Tryz.lays99_ren:={
 mixed:=Qb
 f99:=Tryz.func111.trans (congrArg some Qb)
 f206:=Tryz.func185.trans (congrArg some Qb)
 t3:=Tryz.underlying3
 a3:=Tryz.isAgg3
 z3:=Tryz.sizeOf3
 v3:=Tryz.zeroValue3
 t4:=Tryz.underlying4
 a4:=Tryz.isAgg4
 z4:=Tryz.sizeOf4
 v4:=Tryz.zeroValue4
 t9:=Tryz.underlying9
 a9:=Tryz.isAgg9
 z9:=Tryz.sizeOf9
 v9:=Tryz.zeroValue9 }
open Go.RowKit Go.Lib in
theorem Tryz.strings_HasPrefix (s p:ByteArray) (w:World):
  Calls Tryz.prog 111 #[.string s,.string p] w fun e w'=>e= .returned (.bool (Lib.hasPrefix s.data.toList p.data.toList))/\w'=w:=Any.strings_HasPrefix Tryz.lays99 s p w
def Tryz.lays100_ren:Go.Shelf.Ren:=⟨fun | 100=>112 | 207=>186 | n=>n,fun | 9=>9 | 4=>4 | 3=>3 | n=>n,fun | n=>n⟩
theorem Tryz.lays100:Go.Proofs.Lays.n100 Tryz.prog Tryz.lays100_ren:={
 mixed:=Qb
 f100:=Tryz.func112.trans (congrArg some Qb)
 f207:=Tryz.func186.trans (congrArg some Qb)
 t3:=Tryz.underlying3
 a3:=Tryz.isAgg3
 z3:=Tryz.sizeOf3
 v3:=Tryz.zeroValue3
 t4:=Tryz.underlying4
 a4:=Tryz.isAgg4
 z4:=Tryz.sizeOf4
 v4:=Tryz.zeroValue4
 t9:=Tryz.underlying9
 a9:=Tryz.isAgg9
 z9:=Tryz.sizeOf9
 v9:=Tryz.zeroValue9 }
open Go.RowKit Go.Lib in
theorem Tryz.strings_HasSuffix (s p:ByteArray) (w:World) (hs:s.size<=9223372036854775807):
  Calls Tryz.prog 112 #[.string s,.string p] w fun e w'=>e= .returned (.bool (Lib.hasSuffix s.data.toList p.data.toList))/\w'=w:=Any.strings_HasSuffix Tryz.lays100 s p w hs
def Tryz.lays101_ren:Go.Shelf.Ren:=⟨fun | 101=>183 | 208=>247 | 206=>185 | n=>n,fun | 9=>9 | 4=>4 | 3=>3 | n=>n,fun | n=>n⟩
theorem Tryz.lays101:Go.Proofs.Lays.n101 Tryz.prog Tryz.lays101_ren:={
 mixed:=Qb
 f101:=Tryz.func183.trans (congrArg some Qb)
 f206:=Tryz.func185.trans (congrArg some Qb)
 f208:=Tryz.func247.trans (congrArg some Qb)
 t3:=Tryz.underlying3
 a3:=Tryz.isAgg3
 z3:=Tryz.sizeOf3
 v3:=Tryz.zeroValue3
 t4:=Tryz.underlying4
 a4:=Tryz.isAgg4
 z4:=Tryz.sizeOf4
 v4:=Tryz.zeroValue4
 t9:=Tryz.underlying9
 a9:=Tryz.isAgg9
 z9:=Tryz.sizeOf9
 v9:=Tryz.zeroValue9 }
open Go.RowKit Go.Lib in
theorem Tryz.strings_TrimPrefix (s p:ByteArray) (w:World):
  Calls Tryz.prog 183 #[.string s,.string p] w fun e w'=>e= .returned (.string ⟨(Lib.trimPrefix s.data.toList p.data.toList).toArray⟩)/\w'=w:=Any.strings_TrimPrefix Tryz.lays101 s p w
def Tryz.lays221_ren:Go.Shelf.Ren:=⟨fun | 221=>350 | 268=>358 | 138=>359 | 143=>360 | 195=>284 | 197=>294 | 218=>368 | 219=>221 | 260=>318 | 217=>95 | 225=>277 | 224=>232 | 267=>278 | 266=>162 | 314=>310 | n=>n,fun | 9=>9 | 3=>3 | 31=>22 | 4=>4 | 0=>0 | 105=>121 | 21=>21 | 5=>5 | 46=>200 | 119=>201 | 139=>204 | 138=>203 | 146=>228 | 51=>28 | n=>n,fun | 1=>0 | 3=>1 | 4=>2 | n=>n⟩
def Tryz.lays146_ren:Go.Shelf.Ren:=⟨fun | 146=>339 | 221=>350 | 268=>358 | 138=>359 | 143=>360 | 195=>284 | 197=>294 | 218=>368 | 219=>221 | 260=>318 | 217=>95 | 225=>277 | 224=>232 | 267=>278 | 266=>162 | 314=>310 | n=>n,fun | 9=>9 | 31=>22 | 3=>3 | 4=>4 | 0=>0 | 105=>121 | 21=>21 | 5=>5 | 46=>200 | 119=>201 | 139=>204 | 138=>203 | 146=>228 | 51=>28 | n=>n,fun | 1=>0 | 3=>1 | 4=>2 | n=>n⟩
theorem Tryz.lays146:Go.Proofs.Lays.n146 Tryz.prog Tryz.lays146_ren:={
 mixed:=Qb
 f138:=Tryz.func359.trans (congrArg some Qb)
 f143:=Tryz.func360.trans (congrArg some Qb)
 f146:=Tryz.func339.trans (congrArg some Qb)
 f195:=Tryz.func284.trans (congrArg some Qb)
 f197:=Tryz.func294.trans (congrArg some Qb)
 f217:=Tryz.func95.trans (congrArg some Qb)
 f218:=Tryz.func368.trans (congrArg some Qb)
 f219:=Tryz.func221.trans (congrArg some Qb)
 f221:=Tryz.func350.trans (congrArg some Qb)
 f224:=Tryz.func232.trans (congrArg some Qb)
 f225:=Tryz.func277.trans (congrArg some Qb)
 f260:=Tryz.func318.trans (congrArg some Qb)
 f266:=Tryz.func162.trans (congrArg some Qb)
 f267:=Tryz.func278.trans (congrArg some Qb)
 f268:=Tryz.func358.trans (congrArg some Qb)
 f314:=Tryz.func310.trans (congrArg some Qb)
 t0:=Tryz.underlying0
 a0:=Tryz.isAgg0
 z0:=Tryz.sizeOf0
 v0:=Tryz.zeroValue0
 t3:=Tryz.underlying3
 a3:=Tryz.isAgg3
 z3:=Tryz.sizeOf3
 v3:=Tryz.zeroValue3
 t4:=Tryz.underlying4
 a4:=Tryz.isAgg4
 z4:=Tryz.sizeOf4
 v4:=Tryz.zeroValue4
 t5:=Tryz.underlying5
 a5:=Tryz.isAgg5
 z5:=Tryz.sizeOf5
 v5:=Tryz.zeroValue5
 t9:=Tryz.underlying9
 a9:=Tryz.isAgg9
 z9:=Tryz.sizeOf9
 v9:=Tryz.zeroValue9
 t21:=Tryz.underlying21
 a21:=Tryz.isAgg21
 z21:=Tryz.sizeOf21
 v21:=Tryz.zeroValue21
 t31:=Tryz.underlying22
 a31:=Tryz.isAgg22
 z31:=Tryz.sizeOf22
 v31:=Tryz.zeroValue22
 t46:=Tryz.underlying200
 a46:=Tryz.isAgg200
 z46:=Tryz.sizeOf200
 v46:=Tryz.zeroValue200
 t51:=Tryz.underlying28
 a51:=Tryz.isAgg28
 z51:=Tryz.sizeOf28
 v51:=Tryz.zeroValue28
 t105:=Tryz.underlying121
 a105:=Tryz.isAgg121
 z105:=Tryz.sizeOf121
 v105:=Tryz.zeroValue121
 t119:=Tryz.underlying201
 a119:=Tryz.isAgg201
 z119:=Tryz.sizeOf201
 t138:=Tryz.underlying203
 a138:=Tryz.isAgg203
 z138:=Tryz.sizeOf203
 v138:=Tryz.zeroValue203
 t139:=Tryz.underlying204
 a139:=Tryz.isAgg204
 z139:=Tryz.sizeOf204
 v139:=Tryz.zeroValue204
 t146:=Tryz.underlying228
 a146:=Tryz.isAgg228
 z146:=Tryz.sizeOf228
 v146:=Tryz.zeroValue228
 g1:=Qb
 g3:=Qb
 g4:=Qb }
open Go.RowKit Go.Lib in
theorem Tryz.strings_Split (s sep:ByteArray) (m:Int) (w:World) (hs:s.size<4294967281) (hm:w.cell? ⟨0,0,none⟩=some (.int .i64 m)) (h1:1<=sep.size):
  Calls Tryz.prog 339 #[.string s,.string sep] w fun e w'=>
   e= .returned (.slice (some ⟨w.heap.size,0,none⟩) (Lib.countB s sep+1) (Lib.countB s sep+1))/\w'=w.alloc (.cells ((Lib.splitB sep 0 (Lib.countB s sep) s).map Value.string).toArray 9):=Any.strings_Split Tryz.lays146 Qb s sep m w hs hm h1
def Tryz.lays152_ren:Go.Shelf.Ren:=⟨fun | 152=>314 | 137=>47 | 119=>331 | 224=>232 | 225=>277 | 217=>95 | 266=>162 | n=>n,fun | 9=>9 | 21=>21 | 3=>3 | 4=>4 | 5=>5 | 0=>0 | 46=>200 | n=>n,fun | n=>n⟩
theorem Tryz.lays152:Go.Proofs.Lays.n152 Tryz.prog Tryz.lays152_ren:={
 mixed:=Qb
 f119:=Tryz.func331.trans (congrArg some Qb)
 f137:=Tryz.func47.trans (congrArg some Qb)
 f152:=Tryz.func314.trans (congrArg some Qb)
 f217:=Tryz.func95.trans (congrArg some Qb)
 f224:=Tryz.func232.trans (congrArg some Qb)
 f225:=Tryz.func277.trans (congrArg some Qb)
 f266:=Tryz.func162.trans (congrArg some Qb)
 t0:=Tryz.underlying0
 a0:=Tryz.isAgg0
 z0:=Tryz.sizeOf0
 v0:=Tryz.zeroValue0
 t3:=Tryz.underlying3
 a3:=Tryz.isAgg3
 z3:=Tryz.sizeOf3
 v3:=Tryz.zeroValue3
 t4:=Tryz.underlying4
 a4:=Tryz.isAgg4
 z4:=Tryz.sizeOf4
 v4:=Tryz.zeroValue4
 t5:=Tryz.underlying5
 a5:=Tryz.isAgg5
 z5:=Tryz.sizeOf5
 v5:=Tryz.zeroValue5
 t9:=Tryz.underlying9
 a9:=Tryz.isAgg9
 z9:=Tryz.sizeOf9
 v9:=Tryz.zeroValue9
 t21:=Tryz.underlying21
 a21:=Tryz.isAgg21
 z21:=Tryz.sizeOf21
 v21:=Tryz.zeroValue21
 t46:=Tryz.underlying200
 a46:=Tryz.isAgg200
 z46:=Tryz.sizeOf200
 v46:=Tryz.zeroValue200 }
open Go.RowKit Go.Lib in
theorem Tryz.strings_IndexRune_ascii (s:ByteArray) (r:Int) (w:World) (h0:0<=r) (h1:r<128):
  Calls Tryz.prog 314 #[.string s,.int .i32 r] w fun e w'=>e= .returned (.int .i64 (Lib.indexByte s.data.toList r.toNat.toUInt8))/\w'=w:=Any.strings_IndexRune_ascii Tryz.lays152 s r w h0 h1
def Tryz.lays226_ren:Go.Shelf.Ren:=⟨fun | 226=>332 | n=>n,fun | 3=>3 | 4=>4 | n=>n,fun | n=>n⟩
theorem Tryz.lays226:Go.Proofs.Lays.n226 Tryz.prog Tryz.lays226_ren:={
 mixed:=Qb
 f226:=Tryz.func332.trans (congrArg some Qb)
 t3:=Tryz.underlying3
 a3:=Tryz.isAgg3
 z3:=Tryz.sizeOf3
 v3:=Tryz.zeroValue3
 t4:=Tryz.underlying4
 a4:=Tryz.isAgg4
 z4:=Tryz.sizeOf4
 v4:=Tryz.zeroValue4 }
open Go.RowKit Go.Lib in
theorem Tryz.strings_shouldUseASCIISet (n:Int) (w:World):
  Calls Tryz.prog 332 #[.int .i64 n] w fun e w'=>e= .returned (.bool (decide (8<n)))/\w'=w:=Any.strings_shouldUseASCIISet Tryz.lays226 n w
def Tryz.lays227_ren:Go.Shelf.Ren:=⟨fun | 227=>238 | n=>n,fun | 9=>9 | 116=>206 | 4=>4 | 0=>0 | 3=>3 | 5=>5 | n=>n,fun | n=>n⟩
theorem Tryz.lays227:Go.Proofs.Lays.n227 Tryz.prog Tryz.lays227_ren:={
 mixed:=Qb
 f227:=Tryz.func238.trans (congrArg some Qb)
 t0:=Tryz.underlying0
 a0:=Tryz.isAgg0
 z0:=Tryz.sizeOf0
 v0:=Tryz.zeroValue0
 t3:=Tryz.underlying3
 a3:=Tryz.isAgg3
 z3:=Tryz.sizeOf3
 v3:=Tryz.zeroValue3
 t4:=Tryz.underlying4
 a4:=Tryz.isAgg4
 z4:=Tryz.sizeOf4
 v4:=Tryz.zeroValue4
 t5:=Tryz.underlying5
 a5:=Tryz.isAgg5
 z5:=Tryz.sizeOf5
 v5:=Tryz.zeroValue5
 t9:=Tryz.underlying9
 a9:=Tryz.isAgg9
 z9:=Tryz.sizeOf9
 v9:=Tryz.zeroValue9
 t116:=Tryz.underlying206
 a116:=Tryz.isAgg206
 z116:=Tryz.sizeOf206 }
open Go.RowKit Go.Lib in
theorem Tryz.strings_makeASCIISet (hv116:∀ w,(zeroValue 206).run Tryz.prog w= .ok (.agg (Array.replicate 256 (.bool false))) w) (chars:ByteArray) (w:World) (hs:chars.size<4294967281) (hascii:∀ (j:Nat) b,chars.data.toList[j]? =some b->b.toNat<128):
  Calls Tryz.prog 238 #[.string chars] w fun e w'=>e= .returned (.tuple #[.agg (Lib.setCells chars.data.toList),.bool true])/\w'=w.alloc (.cells (Lib.setCells chars.data.toList) 206):=Any.strings_makeASCIISet Tryz.lays227 hv116 Qb chars w hs hascii
def Tryz.lays228_ren:Go.Shelf.Ren:=⟨fun | 228=>289 | n=>n,fun | 124=>210 | 5=>5 | 4=>4 | 0=>0 | 116=>206 | n=>n,fun | n=>n⟩
theorem Tryz.lays228:Go.Proofs.Lays.n228 Tryz.prog Tryz.lays228_ren:={
 mixed:=Qb
 f228:=Tryz.func289.trans (congrArg some Qb)
 t0:=Tryz.underlying0
 a0:=Tryz.isAgg0
 z0:=Tryz.sizeOf0
 v0:=Tryz.zeroValue0
 t4:=Tryz.underlying4
 a4:=Tryz.isAgg4
 z4:=Tryz.sizeOf4
 v4:=Tryz.zeroValue4
 t5:=Tryz.underlying5
 a5:=Tryz.isAgg5
 z5:=Tryz.sizeOf5
 v5:=Tryz.zeroValue5
 t116:=Tryz.underlying206
 a116:=Tryz.isAgg206
 z116:=Tryz.sizeOf206
 t124:=Tryz.underlying210
 a124:=Tryz.isAgg210
 z124:=Tryz.sizeOf210
 v124:=Tryz.zeroValue210 }
open Go.RowKit Go.Lib in
theorem Tryz.asciiSet_contains (b:Nat) (x:UInt8) (v:Bool) (w:World) (hc:w.cell? ⟨b,x.toNat,none⟩=some (.bool v)):
  Calls Tryz.prog 289 #[.pointer (some ⟨b,0,none⟩),.int .u8 x.toNat] w fun e w'=>e= .returned (.bool v)/\w'=w:=Any.asciiSet_contains Tryz.lays228 b x v w hc
def Tryz.lays110_ren:Go.Shelf.Ren:=⟨fun | 110=>180 | 109=>246 | n=>n,fun | 31=>22 | 9=>9 | 4=>4 | 3=>3 | 0=>0 | n=>n,fun | n=>n⟩
theorem Tryz.lays110:Go.Proofs.Lays.n110 Tryz.prog Tryz.lays110_ren:={
 mixed:=Qb
 f109:=Tryz.func246.trans (congrArg some Qb)
 f110:=Tryz.func180.trans (congrArg some Qb)
 t0:=Tryz.underlying0
 a0:=Tryz.isAgg0
 z0:=Tryz.sizeOf0
 v0:=Tryz.zeroValue0
 t3:=Tryz.underlying3
 a3:=Tryz.isAgg3
 z3:=Tryz.sizeOf3
 v3:=Tryz.zeroValue3
 t4:=Tryz.underlying4
 a4:=Tryz.isAgg4
 z4:=Tryz.sizeOf4
 v4:=Tryz.zeroValue4
 t9:=Tryz.underlying9
 a9:=Tryz.isAgg9
 z9:=Tryz.sizeOf9
 v9:=Tryz.zeroValue9
 t31:=Tryz.underlying22
 a31:=Tryz.isAgg22
 z31:=Tryz.sizeOf22
 v31:=Tryz.zeroValue22 }
open Go.Lib in
theorem Tryz.slices_Contains_string (b off n c:Nat) (zs:List ByteArray) (x:ByteArray) (w:World) (hz:n<=zs.length) (hbig:n<=9223372036854775807) (hc:∀ j,j<zs.length->w.cell? ⟨b,off+j,none⟩=some (.string (zs.getD j ByteArray.empty))):
  Calls Tryz.prog 180 #[.slice (some ⟨b,off,none⟩) n c,.string x] w fun e w'=>e= .returned (.bool (Lib.containsS (zs.take n) x))/\w'=w:=Any.slices_Contains_string Tryz.lays110 b off n c zs x w hz hbig hc
open Go.Lib in
theorem Tryz.slices_Contains_string_empty (a:Option Addr) (c:Nat) (x:ByteArray) (w:World):
  Calls Tryz.prog 180 #[.slice a 0 c,.string x] w fun e w'=>e= .returned (.bool false)/\w'=w:=Any.slices_Contains_string_empty Tryz.lays110 a c x w
def Tryz.lays193_ren:Go.Shelf.Ren:=⟨fun | 193=>101 | n=>n,fun | 31=>22 | 9=>9 | 4=>4 | 3=>3 | 0=>0 | n=>n,fun | n=>n⟩
theorem Tryz.lays193:Go.Proofs.Lays.n193 Tryz.prog Tryz.lays193_ren:={
 mixed:=Qb
 f193:=Tryz.func101.trans (congrArg some Qb)
 t0:=Tryz.underlying0
 a0:=Tryz.isAgg0
 z0:=Tryz.sizeOf0
 v0:=Tryz.zeroValue0
 t3:=Tryz.underlying3
 a3:=Tryz.isAgg3
 z3:=Tryz.sizeOf3
 v3:=Tryz.zeroValue3
 t4:=Tryz.underlying4
 a4:=Tryz.isAgg4
 z4:=Tryz.sizeOf4
 v4:=Tryz.zeroValue4
 t9:=Tryz.underlying9
 a9:=Tryz.isAgg9
 z9:=Tryz.sizeOf9
 v9:=Tryz.zeroValue9
 t31:=Tryz.underlying22
 a31:=Tryz.isAgg22
 z31:=Tryz.sizeOf22
 v31:=Tryz.zeroValue22 }
open Go.RowKit Go.Lib in
theorem Tryz.slices_Equal_string (b1 o1 n c b2 o2 m d:Nat) (xs ys:List ByteArray) (w:World) (hx:n<=xs.length) (hy:m<=ys.length) (hbig:n<=9223372036854775807) (hbig2:m<=9223372036854775807) (hc1:∀ j,j<xs.length->w.cell? ⟨b1,o1+j,none⟩=some (.string (xs.getD j ByteArray.empty))) (hc2:∀ j,j<ys.length->w.cell? ⟨b2,o2+j,none⟩=some (.string (ys.getD j ByteArray.empty))):
  Calls Tryz.prog 101 #[.slice (some ⟨b1,o1,none⟩) n c,.slice (some ⟨b2,o2,none⟩) m d] w fun e w'=>e= .returned (.bool (decide (xs.take n=ys.take m)))/\∃ q,w'=w.drewN q:=Any.slices_Equal_string Tryz.lays193 b1 o1 n c b2 o2 m d xs ys w hx hy hbig hbig2 hc1 hc2
open Go.RowKit Go.Lib in
theorem Tryz.slices_Equal_string_empty (a1 a2:Option Addr) (c m d:Nat) (w:World) (hbig2:m<=9223372036854775807):
  Calls Tryz.prog 101 #[.slice a1 0 c,.slice a2 m d] w fun e w'=>e= .returned (.bool (decide (m=0)))/\w'=w:=Any.slices_Equal_string_empty Tryz.lays193 a1 a2 c m d w hbig2
def Tryz.laysNm216_ren:Go.Shelf.Ren:=⟨fun | 16=>104 | n=>n,fun | 24=>22 | 9=>9 | 4=>4 | n=>n,fun | n=>n⟩
theorem Tryz.laysNm216:Go.Proofs.Lays2.n16 Tryz.prog Tryz.laysNm216_ren:={
 mixed:=Qb
 f16:=Tryz.func104.trans (congrArg some Qb)
 t4:=Tryz.underlying4
 a4:=Tryz.isAgg4
 z4:=Tryz.sizeOf4
 v4:=Tryz.zeroValue4
 t9:=Tryz.underlying9
 a9:=Tryz.isAgg9
 z9:=Tryz.sizeOf9
 v9:=Tryz.zeroValue9
 t24:=Tryz.underlying22
 a24:=Tryz.isAgg22
 z24:=Tryz.sizeOf22
 v24:=Tryz.zeroValue22
 i9:=Qb }
open Go.RowKit Go.Lib in
theorem Tryz.slices_Clone_string (b off n c:Nat) (zs:List ByteArray) (w:World) (hz:n<=zs.length) (hbig:n * 16<=140737488355328) (hc:∀ j,j<zs.length->w.cell? ⟨b,off+j,none⟩=some (.string (zs.getD j ByteArray.empty))):
  Calls Tryz.prog 104 #[.slice (some ⟨b,off,none⟩) n c] w fun e w'=>∃ v',e= .returned v'/\w'.ownsRow w.heap.size 9 1 v' n ((zs.take n).map (Value.string))/\v'≠ .slice none 0 0/\Below w.heap.size w w':=Any.slices_Clone_string Tryz.laysNm216 b off n c zs w hz hbig hc
open Go.RowKit Go.Lib in
theorem Tryz.slices_Clone_string_nil (n c:Nat) (w:World):
  Calls Tryz.prog 104 #[.slice none n c] w fun e w'=>e= .returned (.slice none 0 0)/\w'=w:=Any.slices_Clone_string_nil Tryz.laysNm216 n c w
open Go.RowKit Go.Lib in
theorem Tryz.slices_Clone_string_zero (a:Addr) (c:Nat) (w:World):
  Calls Tryz.prog 104 #[.slice (some a) 0 c] w fun e w'=>∃ v',e= .returned v'/\w'.ownsRow w.heap.size 9 1 v' 0 []/\v'≠ .slice none 0 0/\Below w.heap.size w w':=Any.slices_Clone_string_zero Tryz.laysNm216 a c w
def Tryz.lays185_ren:Go.Shelf.Ren:=⟨fun | 185=>164 | 187=>229 | 115=>230 | 253=>231 | 224=>232 | 254=>233 | 255=>285 | 291=>286 | n=>n,fun | 37=>25 | 3=>3 | 4=>4 | 0=>0 | 5=>5 | 46=>200 | 9=>9 | 146=>228 | 51=>28 | n=>n,fun | 1=>0 | n=>n⟩
theorem Tryz.lays185:Go.Proofs.Lays.n185 Tryz.prog Tryz.lays185_ren:={
 mixed:=Qb
 f115:=Tryz.func230.trans (congrArg some Qb)
 f185:=Tryz.func164.trans (congrArg some Qb)
 f187:=Tryz.func229.trans (congrArg some Qb)
 f224:=Tryz.func232.trans (congrArg some Qb)
 f253:=Tryz.func231.trans (congrArg some Qb)
 f254:=Tryz.func233.trans (congrArg some Qb)
 f255:=Tryz.func285.trans (congrArg some Qb)
 f291:=Tryz.func286.trans (congrArg some Qb)
 t0:=Tryz.underlying0
 a0:=Tryz.isAgg0
 z0:=Tryz.sizeOf0
 v0:=Tryz.zeroValue0
 t3:=Tryz.underlying3
 a3:=Tryz.isAgg3
 z3:=Tryz.sizeOf3
 v3:=Tryz.zeroValue3
 t4:=Tryz.underlying4
 a4:=Tryz.isAgg4
 z4:=Tryz.sizeOf4
 v4:=Tryz.zeroValue4
 t5:=Tryz.underlying5
 a5:=Tryz.isAgg5
 z5:=Tryz.sizeOf5
 v5:=Tryz.zeroValue5
 t9:=Tryz.underlying9
 a9:=Tryz.isAgg9
 z9:=Tryz.sizeOf9
 v9:=Tryz.zeroValue9
 t37:=Tryz.underlying25
 a37:=Tryz.isAgg25
 z37:=Tryz.sizeOf25
 v37:=Tryz.zeroValue25
 t46:=Tryz.underlying200
 a46:=Tryz.isAgg200
 z46:=Tryz.sizeOf200
 v46:=Tryz.zeroValue200
 t51:=Tryz.underlying28
 a51:=Tryz.isAgg28
 z51:=Tryz.sizeOf28
 v51:=Tryz.zeroValue28
 t146:=Tryz.underlying228
 a146:=Tryz.isAgg228
 z146:=Tryz.sizeOf228
 v146:=Tryz.zeroValue228
 g1:=Qb }
open Go.RowKit Go.Lib in
theorem Tryz.bytes_Index_one_nil (b2 o2 d:Nat) (cv:Int) (w:World) (hc2:w.cell? ⟨b2,o2,none⟩=some (.int .u8 cv)):
  Calls Tryz.prog 164 #[.slice none 0 0,.slice (some ⟨b2,o2,none⟩) 1 d] w fun e w'=>e= .returned (.int .i64 (-1))/\w'=w:=Any.bytes_Index_one_nil Tryz.lays185 b2 o2 d cv w hc2
def Tryz.laysSlB13_ren:Go.Shelf.Ren:=⟨fun | 13=>163 | 24=>227 | 25=>228 | 12=>164 | 31=>284 | 19=>229 | 20=>230 | 21=>231 | 22=>232 | 23=>233 | 29=>285 | 30=>286 | n=>n,fun | 22=>25 | 3=>3 | 4=>4 | 0=>0 | 5=>5 | 9=>9 | 33=>200 | 40=>228 | 39=>28 | n=>n,fun | 0=>0 | n=>n⟩
theorem Tryz.laysSlB13:Go.Proofs.SlLaysB.n13 Tryz.prog Tryz.laysSlB13_ren:={
 mixed:=Qb
 f13:=Tryz.func163.trans (congrArg some Qb)
 f25:=Tryz.func228.trans (congrArg some Qb)
 t0:=Tryz.underlying0
 a0:=Tryz.isAgg0
 z0:=Tryz.sizeOf0
 v0:=Tryz.zeroValue0
 t3:=Tryz.underlying3
 a3:=Tryz.isAgg3
 z3:=Tryz.sizeOf3
 v3:=Tryz.zeroValue3
 t4:=Tryz.underlying4
 a4:=Tryz.isAgg4
 z4:=Tryz.sizeOf4
 v4:=Tryz.zeroValue4
 t5:=Tryz.underlying5
 a5:=Tryz.isAgg5
 z5:=Tryz.sizeOf5
 v5:=Tryz.zeroValue5
 t22:=Tryz.underlying25
 a22:=Tryz.isAgg25
 z22:=Tryz.sizeOf25
 v22:=Tryz.zeroValue25 }
open Go.RowKit Go.Lib in
theorem Tryz.bytes_Count_one_at (a:Addr) (n c b2 o2 d:Nat) (xs:List Int) (cv:Int) (w:World) (hx:xs.length=n) (hc:∀ i,i<n->w.cell? (a.add i)=some (.int .u8 (xs.getD i 0))) (hc2:w.cell? ⟨b2,o2,none⟩=some (.int .u8 cv)):
  Calls Tryz.prog 163 #[.slice (some a) n c,.slice (some ⟨b2,o2,none⟩) 1 d] w fun e w'=>e= .returned (.int .i64 (Lib.countByte (Lib.bytesOf xs) cv.toNat.toUInt8))/\w'=w:=Any.bytes_Count_one_at Tryz.laysSlB13 a n c b2 o2 d xs cv w hx hc hc2
open Go.RowKit Go.Lib in
theorem Tryz.bytes_Count_one_nil (b2 o2 d:Nat) (cv:Int) (w:World) (hc2:w.cell? ⟨b2,o2,none⟩=some (.int .u8 cv)):
  Calls Tryz.prog 163 #[.slice none 0 0,.slice (some ⟨b2,o2,none⟩) 1 d] w fun e w'=>e= .returned (.int .i64 0)/\w'=w:=Any.bytes_Count_one_nil Tryz.laysSlB13 b2 o2 d cv w hc2
open Go.RowKit Go.Lib in
theorem Tryz.bytes_Index_one_at (a:Addr) (n c b2 o2 d:Nat) (xs:List Int) (cv:Int) (w:World) (hx:xs.length=n) (hc:∀ i,i<n->w.cell? (a.add i)=some (.int .u8 (xs.getD i 0))) (hc2:w.cell? ⟨b2,o2,none⟩=some (.int .u8 cv)):
  Calls Tryz.prog 164 #[.slice (some a) n c,.slice (some ⟨b2,o2,none⟩) 1 d] w fun e w'=>e= .returned (.int .i64 (Lib.indexByte (Lib.bytesOf xs) cv.toNat.toUInt8))/\w'=w:=Any.bytes_Index_one_at Tryz.lays185 a n c b2 o2 d xs cv w hx hc hc2
end Go.Proofs
namespace Go.Proofs.YtonomfeipkdmhaaGreatDoor
open Go.RowKit
def ML (w:World):Prop:=∃ m,w.cell? ⟨0,0,none⟩=some (.int .i64 m)
theorem ML.next {w w':World} (h:ML w) (hb:Below w.heap.size w w'):ML w':=by
 obtain ⟨m,hm⟩:=h;have:=World.block_lt_of_cell? w _ hm
 exact ⟨m,(hb.cell (by simpa using this)).trans hm⟩
theorem ML.alloc {w:World} (h:ML w) (o:Obj):ML (w.alloc o):=h.next ((Below.refl _ _).alloc (Nat.le_refl _) o)
theorem ML.drewN {w:World} (h:ML w) (n:Nat):ML (w.drewN n):=h.next (below_drewN (Below.refl _ _) n)
def Ak (c:UInt8):List UInt8->List UInt8 × List UInt8 × Bool
 | []=>([],[],false)
 | d :: r=>if d=c then ([],r,true) else (d :: (Ak c r).1,(Ak c r).2.1,(Ak c r).2.2)
theorem Adz (c:UInt8) (l:List UInt8):Lib.index l [c]=Lib.indexByte l c:=by
 induction l with
 | nil=>rfl
 | cons d r ih=>
  unfold Lib.index Lib.indexByte;rw [ih]
  by_cases h:d=c
  ·simp [List.isPrefixOf,h]
  ·simp [List.isPrefixOf,h,Ne.symm h]
theorem Agp (c:UInt8) (l:List UInt8):Lib.cut l [c]=Ak c l:=by
 unfold Lib.cut;rw [Adz]
 induction l with
 | nil=>rfl
 | cons d r ih=>
  unfold Lib.indexByte Ak
  by_cases h:d=c
  ·simp [h]
  ·have hg:=Lib.indexByte_ge r c;rw [<-ih]
   by_cases h1:Lib.indexByte r c= -1
   ·simp [h,h1]
   ·have h0:0<=Lib.indexByte r c:=Qa;have e:(Lib.indexByte r c+1).toNat=(Lib.indexByte r c).toNat+1:=Qa;have e2:0<=Lib.indexByte r c+1:=Qa;simp [h,h1,h0,e,e2]
def Aij (w:World) (a b:List UInt8) (f:Bool) (e:Ending) (w':World):Prop:=
 ∃ (ta tb:ByteArray) (n:Nat),e= .returned (.tuple #[.string ta,.string tb,.bool f])/\Hid (ta.toList=a)/\Hid (tb.toList=b)/\w'=w.drewN n
theorem FF (s:ByteArray) (c:UInt8) (w:World) (h:ML w) (hs:s.size<4294967281):
  Calls Tryz.prog 87 #[.string s,.string ⟨#[c]⟩] w (Aij w (Ak c s.toList).1 (Ak c s.toList).2.1 (Ak c s.toList).2.2):=by
 obtain ⟨m,hm⟩:=h;refine (Tryz.strings_Cut s ⟨#[c]⟩ m w hs hm).mono ?_;rintro e w' ⟨rfl,n,rfl⟩
 have e1:Lib.cut s.data.toList [c]=Ak c s.toList:=by rw [Agp,ByteArray.toList_eq]
 simp only [e1];exact ⟨_,_,n,rfl,toList_mk _,toList_mk _,rfl⟩
theorem Pd (c:UInt8) (l:List UInt8):l=(Ak c l).1++(if (Ak c l).2.2 then c :: (Ak c l).2.1 else []):=by
 induction l with
 | nil=>rfl
 | cons d r ih=>
  unfold Ak
  by_cases h:d=c
  ·simp [h]
  ·simp only [h,if_false,List.cons_append];rw [<-ih]
theorem Tq (c:UInt8) (l:List UInt8) (h:(Ak c l).2.2=false):(Ak c l).1=l/\(Ak c l).2.1=[]:=by
 induction l with
 | nil=>exact ⟨rfl,rfl⟩
 | cons d r ih=>
  unfold Ak at h⊢
  by_cases hd:d=c
  ·simp [hd] at h
  ·simp only [hd,if_false] at h⊢
   exact ⟨by rw [(ih h).1],(ih h).2⟩
theorem Cr (c:UInt8) (l:List UInt8):(Ak c l).1.length+(Ak c l).2.1.length<=l.length:=by
 have:=congrArg List.length (Pd c l);rw [List.length_append] at this;cases h:(Ak c l).2.2
 ·rw [(Tq c l h).2];simp;omega
 ·simp [h] at this;omega
def Ot:List (List UInt8 × List UInt8):=[
 ([97,109,112],[38]),([65,77,80],[38]),([108,116],[60]),([76,84],[60]),([103,116],[62]),([71,84],[62]),
 ([113,117,111,116],[34]),([81,85,79,84],[34]),([110,98,115,112],[194,160]),([115,104,121],[194,173]),([110,111,116],[194,172]),
 ([114,101,103],[194,174]),([99,111,112,121],[194,169]),([112,97,114,97],[194,182]),([115,101,99,116],[194,167]),([121,101,110],[194,165]),
 ([100,101,103],[194,176]),([116,105,109,101,115],[195,151]),([101,97,99,117,116,101],[195,169]),([111,117,109,108],[195,182]),([115,122,108,105,103],[195,159])]
def DE:List (List UInt8 × List UInt8):=[
 ([97,112,111,115],[0x27]),([99,111,108,111,110],[0x3a]),([115,111,108],[0x2f]),([98,115,111,108],[0x5c]),
 ([113,117,101,115,116],[0x3f]),([110,117,109],[0x23]),([112,101,114,99,110,116],[0x25]),([99,111,109,109,97,116],[0x40]),
 ([101,113,117,97,108,115],[0x3d]),([112,108,117,115],[0x2b]),([99,111,109,109,97],[0x2c]),([112,101,114,105,111,100],[0x2e]),
 ([115,101,109,105],[0x3b]),([101,120,99,108],[0x21]),([100,111,108,108,97,114],[0x24]),([97,115,116],[0x2a]),
 ([108,111,119,98,97,114],[0x5f]),([103,114,97,118,101],[0x60]),([72,97,116],[0x5e]),([108,112,97,114],[0x28]),
 ([114,112,97,114],[0x29]),([108,115,113,98],[0x5b]),([114,115,113,98],[0x5d]),([108,99,117,98],[0x7b]),
 ([114,99,117,98],[0x7d]),([118,101,114,98,97,114],[0x7c]),([84,97,98],[9]),([78,101,119,76,105,110,101],[10])]
def NX:List (List UInt8 × List UInt8):=[
 ([110,111,116,105,110],[226,136,137]),([110,118,108,116],[60,226,131,146]),([110,118,103,116],[62,226,131,146]),([122,119,110,106],[226,128,140]),
 ([122,119,106],[226,128,141]),([90,101,114,111,87,105,100,116,104,83,112,97,99,101],[226,128,139]),([78,111,66,114,101,97,107],[226,129,160]),
 ([102,106,108,105,103],[102,106]),([99,111,112,121,115,114],[226,132,151]),([116,105,109,101,115,98,97,114],[226,168,177])]
def C3 (t:List (List UInt8 × List UInt8)) (s:List UInt8):Option (List UInt8):=(t.find? fun p=>p.1==s).map (·.2)
def CM (s:List UInt8):Option (List UInt8):=C3 Ot s
def BA (s:List UInt8):Option (List UInt8):=match C3 DE s with | some b=>some b | none=>C3 NX s
def EA (s:List UInt8):Option (List UInt8):=
 if Lib.hasSuffix s [59]=true then (match CM s.dropLast with | some t=>some t | none=>BA s.dropLast) else CM s
def XR:List Nat:=[0x20ac,0x81,0x201a,0x192,0x201e,0x2026,0x2020,0x2021,0x2c6,0x2030,0x160,0x2039,0x152,0x8d,0x17d,0x8f,0x90,0x2018,0x2019,0x201c,0x201d,0x2022,0x2013,0x2014,0x2dc,0x2122,0x161,0x203a,0x153,0x9d,0x17e,0x178]
def F0 (n:Nat):Nat:=if 0x80<=n/\n<=0x9f then XR.getD (n - 0x80) 0 else n
def Cs (n:Nat):List UInt8:=if n=0 then Bv 0xfffd else Bv (F0 n)
def AE (base:Nat):Nat->List UInt8->Nat × Nat
 | n,[]=>(n,0)
 | n,c :: r=>if Ag (c.toNat:Int) (base:Int)<0 then (n,0) else ((AE base (min (n * base+(Ag (c.toNat:Int) (base:Int)).toNat) 0x110000) r).1,(AE base (min (n * base+(Ag (c.toNat:Int) (base:Int)).toNat) 0x110000) r).2+1)
def isX:List UInt8->Bool
 | _ :: _ :: c :: _=>c==120 || c==88
 | _=>false
def CK (s:List UInt8):Nat:=if isX s=true then 16 else 10
def AK (s:List UInt8):Nat:=if isX s=true then 3 else 2
def AR (s:List UInt8):List UInt8 × Nat:=
 let r:=AE (CK s) 0 (s.drop (AK s))
 if r.2=0 then ([38],1)
 else (Cs r.1,if (s.drop (AK s+r.2)).head? =some 59 then AK s+r.2+1 else AK s+r.2)
def Ke (c:UInt8):Bool:=Bn (c.toNat:Int) || decide (0<=Ag (c.toNat:Int) 10) || c==61
def Eo (s:List UInt8):Nat->List UInt8 × Nat
 | 0=>([38],1)
 | n+1=>match EA ((s.drop 1).take (n+1)) with
  | none=>Eo s n
  | some t=>if (s.getD (n+1) 0 != 59 && decide (n+2<s.length) && Ke (s.getD (n+2) 0))=true then ([38],1) else (t,n+2)
def FK (s:List UInt8):List UInt8 × Nat:=if Lib.hasPrefix s [38,35]=true then AR s else Eo s (min 15 (s.length - 1))
def Iz:Nat->List UInt8->List UInt8
 | 0,_=>[]
 | f+1,l=>if (Ak 38 l).2.2=true then (Ak 38 l).1++((FK (38 :: (Ak 38 l).2.1)).1++Iz f ((38 :: (Ak 38 l).2.1).drop (FK (38 :: (Ak 38 l).2.1)).2)) else l
def SY (l:List UInt8):List UInt8:=Iz (l.length+1) l
def EY (c:UInt8):List UInt8:=if c=38 then [38,97,109,112,59] else if c=34 then [38,35,51,52,59] else if c=39 then [38,35,51,57,59] else if c=60 then [38,35,54,48,59] else if c=62 then [38,35,54,50,59] else if c=96 then [38,35,57,54,59] else [c]
def BL (l:List UInt8):List UInt8:=l.flatMap EY
theorem JF (t:List (List UInt8 × List UInt8)) (ht:t.all (fun p=> !p.1.contains 59)=true) {s:List UInt8} (hs:(59:UInt8)∈s):C3 t s=none:=by
 unfold C3;rw [List.find?_eq_none.2,Option.map_none];intro p hp he;rw [beq_iff_eq] at he;have:=List.all_eq_true.1 ht p hp;rw [he] at this;simp [hs] at this
theorem Ok {s:List UInt8} (hs:(59:UInt8)∈s):CM s=none:=JF Ot Qe hs
theorem VC {s:List UInt8} (hs:(59:UInt8)∈s):BA s=none:=by
 unfold BA;rw [JF DE Qe hs];exact JF NX Qe hs
theorem UY {s:List UInt8} {x:UInt8} (hs:(59:UInt8)∈s):EA (s++[x])=none:=by
 unfold EA;split
 ·rw [List.dropLast_concat,Ok hs];exact VC hs
 ·exact Ok (List.mem_append_left _ hs)
theorem PE (r:List UInt8):∀ n,4<=n->n<=r.length+4->Eo (38 :: 97 :: 109 :: 112 :: 59 :: r) n=([38],5)
 | 0,h,_=>Qa
 | n+1,h,h2=>by
  by_cases e:n=3
  ·subst e;have e1:((38 :: 97 :: 109 :: 112 :: 59 :: r:List UInt8).drop 1).take (3+1)=[97,109,112,59]:=rfl;rw [Eo,e1];have e2:EA [97,109,112,59]=some [38]:=Qe;rw [e2];dsimp only;rw [if_neg];show ¬ (((59:UInt8) != 59 && _ && _)=true);simp
  ·have hn:∃ x,((38 :: 97 :: 109 :: 112 :: 59 :: r:List UInt8).drop 1).take (n+1)=(97 :: 109 :: 112 :: 59 :: r.take (n - 4))++[x]:=by
    obtain ⟨k,rfl⟩:∃ k,n=k+4:=⟨n - 4,Qa⟩;have hlt:k<r.length:=Qa;refine ⟨r[k],?_⟩
    rw [show k+4 - 4=k by omega]
    show (97 :: 109 :: 112 :: 59 :: r).take (k+1+4)=_;rw [List.take_succ_cons,List.take_succ_cons,List.take_succ_cons,List.take_succ_cons,List.take_succ_eq_append_getElem hlt];simp
   obtain ⟨x,hx⟩:=hn;rw [Eo,hx,UY Qf];exact PE r n Qa Qa
theorem Agq (r:List UInt8):FK ([38,97,109,112,59]++r)=([38],5):=by
 unfold FK;rw [if_neg QE];exact PE r _ Qi Qi
theorem Mz (a b:UInt8) (c:UInt8) (r:List UInt8) (h:(a,b,c)∈[((51:UInt8),(52:UInt8),(34:UInt8)),(51,57,39),(54,48,60),(54,50,62),(57,54,96)]):FK ([38,35,a,b,59]++r)=([c],5):=by
 unfold FK;rw [if_pos QE];simp only [List.mem_cons,Prod.mk.injEq,List.not_mem_nil,or_false] at h
 rcases h with ⟨rfl,rfl,rfl⟩ | ⟨rfl,rfl,rfl⟩ | ⟨rfl,rfl,rfl⟩ | ⟨rfl,rfl,rfl⟩ | ⟨rfl,rfl,rfl⟩
 all_goals kernel_rfl
theorem Z9 (f:Nat) (c:UInt8) (X:List UInt8) (h:c≠38):Iz (f+1) (c :: X)=c :: Iz (f+1) X:=by
 rw [Iz,Iz,Ak,if_neg h];dsimp only
 split<;>rfl
theorem Ad9 (f:Nat) (Y:List UInt8):Iz (f+1) (38 :: Y)=(FK (38 :: Y)).1++Iz f ((38 :: Y).drop (FK (38 :: Y)).2):=by
 rw [Iz,Ak,if_pos rfl];dsimp only;rw [if_pos rfl,List.nil_append]
theorem AbO (c:UInt8):(c≠38/\EY c=[c])\/((EY c).length=5/\∃ q,EY c=38 :: q/\∀ r,FK (EY c++r)=([c],5)):=by
 unfold EY;split
 ·rename_i h;subst h;exact .inr ⟨rfl,_,rfl,Agq⟩
 split
 ·rename_i h;subst h;exact .inr ⟨rfl,_,rfl,fun r=>Mz 51 52 34 r Qf⟩
 split
 ·rename_i h;subst h;exact .inr ⟨rfl,_,rfl,fun r=>Mz 51 57 39 r Qf⟩
 split
 ·rename_i h;subst h;exact .inr ⟨rfl,_,rfl,fun r=>Mz 54 48 60 r Qf⟩
 split
 ·rename_i h;subst h;exact .inr ⟨rfl,_,rfl,fun r=>Mz 54 50 62 r Qf⟩
 split
 ·rename_i h;subst h;exact .inr ⟨rfl,_,rfl,fun r=>Mz 57 54 96 r Qf⟩
 ·rename_i h _ _ _ _ _;exact .inl ⟨h,rfl⟩
theorem Pl:∀ (l:List UInt8) (f:Nat),(BL l).length<f->Iz f (BL l)=l
 | [],f,h=>by
  cases f with
  | zero=>simp at h
  | succ f=>rfl
 | c :: r,f,h=>by
  have e:BL (c :: r)=EY c++BL r:=rfl;rw [e] at h⊢
  cases f with
  | zero=>simp at h
  | succ f=>
   rcases AbO c with ⟨h1,h2⟩ | ⟨h5,q,h1,h2⟩
   ·rw [h2] at h⊢
    rw [List.cons_append,List.nil_append,Z9 f c _ h1,Pl r (f+1) (by simp at h;omega)]
   ·have hr:=h2 (BL r)
    have hd:(EY c++BL r).drop 5=BL r:=by rw [<-h5,List.drop_left]
    have hc:EY c++BL r=38 :: (q++BL r):=by rw [h1];rfl
    rw [List.length_append,h5] at h;rw [hc] at hr hd⊢;rw [Ad9,hr];dsimp only;rw [hd,Pl r f Qa];rfl
theorem AgP (l:List UInt8):SY (BL l)=l:=Pl l _ Qa
theorem X0 (c:UInt8):1<=(EY c).length/\(EY c).length<=5:=by
 unfold EY
 repeat' split
 all_goals simp
theorem JU (l:List UInt8):l.length<=(BL l).length/\(BL l).length<=5 * l.length:=by
 induction l with
 | nil=>exact ⟨Nat.le_refl _,Nat.le_refl _⟩
 | cons c r ih=>
  have:=X0 c
  show _<=(EY c++BL r).length/\(EY c++BL r).length<=_
  rw [List.length_append,List.length_cons];omega
end Go.Proofs.YtonomfeipkdmhaaGreatDoor
