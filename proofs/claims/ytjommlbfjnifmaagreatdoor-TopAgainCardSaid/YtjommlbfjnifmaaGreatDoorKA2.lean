/-
  The kit's contracts of Go's library, laid at this program.
  No condition beyond those written in each theorem.
-/
import Derived.Shelf.Strings.Builder1
import Derived.Shelf.Strings.Builder2
import Derived.Shelf.Strings.OnBuilder
import Derived.Shelf.Strings.Trim
import Derived.Shelf.Small.Utf8
import Derived.Shelf.Small.Bits
import Derived.Shelf.Small.Strs
import Derived.Shelf.Small.Wraps
import Derived.Shelf.Strings.BuilderF
import Derived.Shelf.Strings.BuilderK
import Derived.Shelf.Strings.Builder2Cap
import Derived.Shelf.Strconv.Itoa0
import Derived.Shelf.Strconv.Itoa1
import Derived.Shelf.LaysM
import Derived.Shelf.Strconv.Itoa2
import Derived.Shelf.Strconv.Itoa3
import Derived.Shelf.Strings.Search1
import Derived.Shelf.Sort.Plain
import Derived.Shelf.Unicode.Decode
import Derived.Shelf.Strings.Runes
import Derived.Shelf.Strings.AsciiSet
import Derived.Shelf.Unicode.DecodeSlow
import Derived.Shelf.Unicode.DecodeAny
import Derived.Shelf.Strings.FieldsFuncAny
import Derived.Shelf.Strings.FieldsFuncGrows
import Derived.Shelf.Strings.BuilderCap
import Derived.Shelf.Slices.Turned
import Derived.Ground.Names2Prog
import Derived.Shelf.Slices.SearchI
import Derived.Shelf.Slices.In.SortNone
import Derived.Test.YtjommlbfjnifmaaGreatDoorProg
set_option linter.unusedSimpArgs false
set_option linter.unusedVariables false
set_option maxRecDepth 4000
namespace Go.Proofs
open Go.Shelf
def Kx.lays156_ren:Go.Shelf.Ren:=⟨fun | 156=>230 | 165=>264 | 166=>253 | 169=>255 | 240=>274 | 241=>280 | 276=>293 | 277=>297 | n=>n,fun | 31=>59 | 9=>9 | 3=>3 | 4=>4 | 0=>0 | 20=>20 | 72=>333 | 76=>337 | 70=>331 | 37=>271 | 75=>336 | 127=>360 | 164=>381 | 5=>5 | 80=>340 | n=>n,fun | n=>n⟩
theorem Kx.lays156:Go.Proofs.Lays.n156 Tryz.prog Kx.lays156_ren:={
 mixed:=by kernel_rfl
 f156:=Tryz.func230.trans (congrArg some (by kernel_rfl))
 f165:=Tryz.func264.trans (congrArg some (by kernel_rfl))
 f166:=Tryz.func253.trans (congrArg some (by kernel_rfl))
 f169:=Tryz.func255.trans (congrArg some (by kernel_rfl))
 f240:=Tryz.func274.trans (congrArg some (by kernel_rfl))
 f241:=Tryz.func280.trans (congrArg some (by kernel_rfl))
 f276:=Tryz.func293.trans (congrArg some (by kernel_rfl))
 f277:=Tryz.func297.trans (congrArg some (by kernel_rfl))
 t0:=Tryz.underlying0
 a0:=Tryz.isAgg0
 z0:=Tryz.sizeOf0
 v0:=Tryz.zeroValue0
 t3:=Tryz.underlying3
 a3:=Tryz.isAgg3
 z3:=Tryz.sizeOf3
 v3:=Tryz.zeroValue3
 t4:=Tryz.underlying4
 a4:=Tryz.isAgg4
 z4:=Tryz.sizeOf4
 v4:=Tryz.zeroValue4
 t9:=Tryz.underlying9
 a9:=Tryz.isAgg9
 z9:=Tryz.sizeOf9
 v9:=Tryz.zeroValue9
 t20:=Tryz.underlying20
 a20:=Tryz.isAgg20
 z20:=Tryz.sizeOf20
 v20:=Tryz.zeroValue20
 t31:=Tryz.underlying59
 a31:=Tryz.isAgg59
 z31:=Tryz.sizeOf59
 v31:=Tryz.zeroValue59
 t37:=Tryz.underlying271
 a37:=Tryz.isAgg271
 z37:=Tryz.sizeOf271
 v37:=Tryz.zeroValue271
 t70:=Tryz.underlying331
 a70:=Tryz.isAgg331
 z70:=Tryz.sizeOf331
 v70:=Tryz.zeroValue331
 t72:=Tryz.underlying333
 a72:=Tryz.isAgg333
 z72:=Tryz.sizeOf333
 v72:=Tryz.zeroValue333
 t75:=Tryz.underlying336
 a75:=Tryz.isAgg336
 z75:=Tryz.sizeOf336
 v75:=Tryz.zeroValue336
 t76:=Tryz.underlying337
 a76:=Tryz.isAgg337
 z76:=Tryz.sizeOf337
 v76:=Tryz.zeroValue337
 t127:=Tryz.underlying360
 a127:=Tryz.isAgg360
 z127:=Tryz.sizeOf360
 v127:=Tryz.zeroValue360
 t164:=Tryz.underlying381
 a164:=Tryz.isAgg381
 z164:=Tryz.sizeOf381
 v164:=Tryz.zeroValue381 }
theorem Kx.Builder_Extra_156:Builder.Extra Tryz.prog Kx.lays156_ren:={
 sizeBuilder:=by kernel_rfl
 liesBuilder:=by kernel_rfl
 t5:=Tryz.underlying5
 a5:=Tryz.isAgg5
 z5:=Tryz.sizeOf5
 v5:=Tryz.zeroValue5
 infoByte:=by kernel_rfl
 cellsByte:=by kernel_rfl
 sizeByte:=by kernel_rfl
 neB5:=by decide }
open Go.RowKit in
theorem Kx.strings_Join_none (a:Option Addr) (c:Nat) (sep:ByteArray) (w:World) :
 Calls Tryz.prog 230 #[.slice a 0 c,.string sep] w fun e w'=>e = .returned (.string ⟨#[]⟩)/\w' = w:=Any.strings_Join_none Kx.lays156 Kx.Builder_Extra_156 a c sep w
open Go.RowKit in
theorem Kx.strings_Join (bk o c:Nat) (xs:List ByteArray) (sep:ByteArray) (w:World) (hcells:∀ (j:Nat) x,xs[j]? = some x->w.cell? ⟨bk,o+j,none⟩=some (.string x)) (hbk:bk<w.heap.size) (hN:xs.length<=140737488355328) (hcap:xs.length<=c) (hlen:(Lib.join (xs.map (·.data.toList)) sep.data.toList).length<=140737488355328) :
 Calls Tryz.prog 230 #[.slice (some ⟨bk,o,none⟩) xs.length c,.string sep] w fun e w'=>e = .returned (.string ⟨(Lib.join (xs.map (·.data.toList)) sep.data.toList).toArray⟩)/\Below w.heap.size w w':=Any.strings_Join Kx.lays156 Kx.Builder_Extra_156 bk o c xs sep w hcells hbk hN hcap hlen
def Kx.lays125_ren:Go.Shelf.Ren:=⟨fun | 125=>89 | 128=>148 | 129=>149 | n=>n,fun | 46=>91 | 3=>3 | 51=>255 | 53=>80 | 4=>4 | 5=>5 | 9=>9 | n=>n,fun | n=>n⟩
theorem Kx.lays125:Go.Proofs.Lays.n125 Tryz.prog Kx.lays125_ren:={
 mixed:=by kernel_rfl
 f125:=Tryz.func89.trans (congrArg some (by kernel_rfl))
 f128:=Tryz.func148.trans (congrArg some (by kernel_rfl))
 f129:=Tryz.func149.trans (congrArg some (by kernel_rfl))
 t3:=Tryz.underlying3
 a3:=Tryz.isAgg3
 z3:=Tryz.sizeOf3
 v3:=Tryz.zeroValue3
 t4:=Tryz.underlying4
 a4:=Tryz.isAgg4
 z4:=Tryz.sizeOf4
 v4:=Tryz.zeroValue4
 t5:=Tryz.underlying5
 a5:=Tryz.isAgg5
 z5:=Tryz.sizeOf5
 v5:=Tryz.zeroValue5
 t9:=Tryz.underlying9
 a9:=Tryz.isAgg9
 z9:=Tryz.sizeOf9
 v9:=Tryz.zeroValue9
 t46:=Tryz.underlying91
 a46:=Tryz.isAgg91
 z46:=Tryz.sizeOf91
 v46:=Tryz.zeroValue91
 t51:=Tryz.underlying255
 a51:=Tryz.isAgg255
 z51:=Tryz.sizeOf255
 v51:=Tryz.zeroValue255
 t53:=Tryz.underlying80
 a53:=Tryz.isAgg80
 z53:=Tryz.sizeOf80
 v53:=Tryz.zeroValue80 }
theorem Kx.bits_Len (x:Int) (w:World) (h0:0<=x) (h1:x<=18446744073709551615) :
 Calls Tryz.prog 89 #[.int .u64 x] w fun e w'=>e = .returned (.int .i64 (Lib.bitLen x.toNat))/\w' = w:=Any.bits_Len Kx.lays125 x w h0 h1
def Kx.lays171_ren:Go.Shelf.Ren:=⟨fun | 171=>205 | 243=>237 | 246=>268 | 283=>288 | 284=>289 | 285=>290 | 286=>291 | 129=>149 | 317=>302 | 318=>303 | 319=>304 | 320=>305 | 337=>317 | 338=>318 | n=>n,fun | 3=>3 | 9=>9 | 2=>2 | 4=>4 | 171=>376 | 0=>0 | 53=>80 | 37=>271 | 5=>5 | 173=>378 | 212=>393 | 51=>255 | 20=>20 | 213=>394 | 46=>91 | 232=>410 | 233=>411 | n=>n,fun | 17=>0 | 18=>4 | 19=>5 | n=>n⟩
theorem Kx.lays171:Go.Proofs.Lays.n171 Tryz.prog Kx.lays171_ren:={
 mixed:=by kernel_rfl
 f129:=Tryz.func149.trans (congrArg some (by kernel_rfl))
 f171:=Tryz.func205.trans (congrArg some (by kernel_rfl))
 f243:=Tryz.func237.trans (congrArg some (by kernel_rfl))
 f246:=Tryz.func268.trans (congrArg some (by kernel_rfl))
 f283:=Tryz.func288.trans (congrArg some (by kernel_rfl))
 f284:=Tryz.func289.trans (congrArg some (by kernel_rfl))
 f285:=Tryz.func290.trans (congrArg some (by kernel_rfl))
 f286:=Tryz.func291.trans (congrArg some (by kernel_rfl))
 f317:=Tryz.func302.trans (congrArg some (by kernel_rfl))
 f318:=Tryz.func303.trans (congrArg some (by kernel_rfl))
 f319:=Tryz.func304.trans (congrArg some (by kernel_rfl))
 f320:=Tryz.func305.trans (congrArg some (by kernel_rfl))
 f337:=Tryz.func317.trans (congrArg some (by kernel_rfl))
 f338:=Tryz.func318.trans (congrArg some (by kernel_rfl))
 t0:=Tryz.underlying0
 a0:=Tryz.isAgg0
 z0:=Tryz.sizeOf0
 v0:=Tryz.zeroValue0
 t2:=Tryz.underlying2
 a2:=Tryz.isAgg2
 z2:=Tryz.sizeOf2
 v2:=Tryz.zeroValue2
 t3:=Tryz.underlying3
 a3:=Tryz.isAgg3
 z3:=Tryz.sizeOf3
 v3:=Tryz.zeroValue3
 t4:=Tryz.underlying4
 a4:=Tryz.isAgg4
 z4:=Tryz.sizeOf4
 v4:=Tryz.zeroValue4
 t5:=Tryz.underlying5
 a5:=Tryz.isAgg5
 z5:=Tryz.sizeOf5
 v5:=Tryz.zeroValue5
 t9:=Tryz.underlying9
 a9:=Tryz.isAgg9
 z9:=Tryz.sizeOf9
 v9:=Tryz.zeroValue9
 t20:=Tryz.underlying20
 a20:=Tryz.isAgg20
 z20:=Tryz.sizeOf20
 v20:=Tryz.zeroValue20
 t37:=Tryz.underlying271
 a37:=Tryz.isAgg271
 z37:=Tryz.sizeOf271
 v37:=Tryz.zeroValue271
 t46:=Tryz.underlying91
 a46:=Tryz.isAgg91
 z46:=Tryz.sizeOf91
 v46:=Tryz.zeroValue91
 t51:=Tryz.underlying255
 a51:=Tryz.isAgg255
 z51:=Tryz.sizeOf255
 v51:=Tryz.zeroValue255
 t53:=Tryz.underlying80
 a53:=Tryz.isAgg80
 z53:=Tryz.sizeOf80
 v53:=Tryz.zeroValue80
 t171:=Tryz.underlying376
 a171:=Tryz.isAgg376
 z171:=Tryz.sizeOf376
 v171:=Tryz.zeroValue376
 t173:=Tryz.underlying378
 a173:=Tryz.isAgg378
 z173:=Tryz.sizeOf378
 v173:=Tryz.zeroValue378
 t212:=Tryz.underlying393
 a212:=Tryz.isAgg393
 z212:=Tryz.sizeOf393
 v212:=Tryz.zeroValue393
 t213:=Tryz.underlying394
 a213:=Tryz.isAgg394
 z213:=Tryz.sizeOf394
 t232:=Tryz.underlying410
 a232:=Tryz.isAgg410
 z232:=Tryz.sizeOf410
 v232:=Tryz.zeroValue410
 t233:=Tryz.underlying411
 a233:=Tryz.isAgg411
 z233:=Tryz.sizeOf411
 v233:=Tryz.zeroValue411
 g17:=by kernel_rfl
 g18:=by kernel_rfl
 g19:=by kernel_rfl }
open Go.RowKit Go.Sort Go.Lib in
theorem Kx.strconv_Itoa_small (i:Nat) (hi:i<100) (w:World) :
 Calls Tryz.prog 205 #[.int .i64 i] w fun e w'=>e = .returned (.string ⟨(Lib.decDigits i).toArray⟩)/\w' = w:=Any.strconv_Itoa_small Kx.lays171 i hi w
def Kx.lays190_ren:Go.Shelf.Ren:=⟨fun | 190=>277 | 125=>89 | 258=>295 | 128=>148 | 129=>149 | 302=>306 | 303=>307 | 304=>308 | 305=>309 | 306=>310 | 307=>311 | 308=>312 | 309=>313 | 310=>314 | 333=>319 | 329=>184 | 330=>185 | 334=>320 | 335=>321 | 336=>322 | 344=>327 | n=>n,fun | 31=>59 | 9=>9 | 3=>3 | 46=>91 | 0=>0 | 51=>255 | 53=>80 | 4=>4 | 183=>249 | 182=>248 | 131=>243 | 5=>5 | 218=>284 | 222=>287 | 228=>308 | 229=>309 | n=>n,fun | n=>n⟩
theorem Kx.lays190:Go.Proofs.Lays.n190 Tryz.prog Kx.lays190_ren:={
 mixed:=by kernel_rfl
 f125:=Tryz.func89.trans (congrArg some (by kernel_rfl))
 f128:=Tryz.func148.trans (congrArg some (by kernel_rfl))
 f129:=Tryz.func149.trans (congrArg some (by kernel_rfl))
 f190:=Tryz.func277.trans (congrArg some (by kernel_rfl))
 f258:=Tryz.func295.trans (congrArg some (by kernel_rfl))
 f302:=Tryz.func306.trans (congrArg some (by kernel_rfl))
 f303:=Tryz.func307.trans (congrArg some (by kernel_rfl))
 f304:=Tryz.func308.trans (congrArg some (by kernel_rfl))
 f305:=Tryz.func309.trans (congrArg some (by kernel_rfl))
 f306:=Tryz.func310.trans (congrArg some (by kernel_rfl))
 f307:=Tryz.func311.trans (congrArg some (by kernel_rfl))
 f308:=Tryz.func312.trans (congrArg some (by kernel_rfl))
 f309:=Tryz.func313.trans (congrArg some (by kernel_rfl))
 f310:=Tryz.func314.trans (congrArg some (by kernel_rfl))
 f329:=Tryz.func184.trans (congrArg some (by kernel_rfl))
 f330:=Tryz.func185.trans (congrArg some (by kernel_rfl))
 f333:=Tryz.func319.trans (congrArg some (by kernel_rfl))
 f334:=Tryz.func320.trans (congrArg some (by kernel_rfl))
 f335:=Tryz.func321.trans (congrArg some (by kernel_rfl))
 f336:=Tryz.func322.trans (congrArg some (by kernel_rfl))
 f344:=Tryz.func327.trans (congrArg some (by kernel_rfl))
 t0:=Tryz.underlying0
 a0:=Tryz.isAgg0
 z0:=Tryz.sizeOf0
 v0:=Tryz.zeroValue0
 t3:=Tryz.underlying3
 a3:=Tryz.isAgg3
 z3:=Tryz.sizeOf3
 v3:=Tryz.zeroValue3
 t4:=Tryz.underlying4
 a4:=Tryz.isAgg4
 z4:=Tryz.sizeOf4
 v4:=Tryz.zeroValue4
 t5:=Tryz.underlying5
 a5:=Tryz.isAgg5
 z5:=Tryz.sizeOf5
 v5:=Tryz.zeroValue5
 t9:=Tryz.underlying9
 a9:=Tryz.isAgg9
 z9:=Tryz.sizeOf9
 v9:=Tryz.zeroValue9
 t31:=Tryz.underlying59
 a31:=Tryz.isAgg59
 z31:=Tryz.sizeOf59
 v31:=Tryz.zeroValue59
 t46:=Tryz.underlying91
 a46:=Tryz.isAgg91
 z46:=Tryz.sizeOf91
 v46:=Tryz.zeroValue91
 t51:=Tryz.underlying255
 a51:=Tryz.isAgg255
 z51:=Tryz.sizeOf255
 v51:=Tryz.zeroValue255
 t53:=Tryz.underlying80
 a53:=Tryz.isAgg80
 z53:=Tryz.sizeOf80
 v53:=Tryz.zeroValue80
 t131:=Tryz.underlying243
 a131:=Tryz.isAgg243
 z131:=Tryz.sizeOf243
 v131:=Tryz.zeroValue243
 t182:=Tryz.underlying248
 a182:=Tryz.isAgg248
 z182:=Tryz.sizeOf248
 v182:=Tryz.zeroValue248
 t183:=Tryz.underlying249
 a183:=Tryz.isAgg249
 z183:=Tryz.sizeOf249
 v183:=Tryz.zeroValue249
 t218:=Tryz.underlying284
 a218:=Tryz.isAgg284
 z218:=Tryz.sizeOf284
 v218:=Tryz.zeroValue284
 t222:=Tryz.underlying287
 a222:=Tryz.isAgg287
 z222:=Tryz.sizeOf287
 v222:=Tryz.zeroValue287
 t228:=Tryz.underlying308
 a228:=Tryz.isAgg308
 z228:=Tryz.sizeOf308
 v228:=Tryz.zeroValue308
 t229:=Tryz.underlying309
 a229:=Tryz.isAgg309
 z229:=Tryz.sizeOf309
 v229:=Tryz.zeroValue309 }
open Go.Sort Go.RowKit in
theorem Kx.slices_Sort_string (blk off cap:Nat) (ss:List (List UInt8)) (w:World) (hH:Holds encStr w blk off ss.toArray) (hblk:blk<w.heap.size) (hsz:ss.length<4611686018427387904) :
 Calls Tryz.prog 277 #[.slice (some ⟨blk,off,none⟩) ss.length cap] w fun e w' =>
  e = .returned (.tuple #[])/\∃ n os,w' = grow (putRow encStr (Sort.ahead w n) blk off (ss.mergeSort fun x y=>decide (x<=y)).toArray) os:=Any.slices_Sort_string Kx.lays190 blk off cap ss w hH hblk hsz
def Kx.lays229_ren:Go.Shelf.Ren:=⟨fun | 229=>256 | n=>n,fun | 9=>9 | 40=>342 | 31=>59 | 152=>361 | 3=>3 | 0=>0 | 4=>4 | 21=>21 | 154=>363 | n=>n,fun | n=>n⟩
theorem Kx.lays229:Go.Proofs.Lays.n229 Tryz.prog Kx.lays229_ren:={
 mixed:=by kernel_rfl
 f229:=Tryz.func256.trans (congrArg some (by kernel_rfl))
 t0:=Tryz.underlying0
 a0:=Tryz.isAgg0
 z0:=Tryz.sizeOf0
 v0:=Tryz.zeroValue0
 t3:=Tryz.underlying3
 a3:=Tryz.isAgg3
 z3:=Tryz.sizeOf3
 v3:=Tryz.zeroValue3
 t4:=Tryz.underlying4
 a4:=Tryz.isAgg4
 z4:=Tryz.sizeOf4
 v4:=Tryz.zeroValue4
 t9:=Tryz.underlying9
 a9:=Tryz.isAgg9
 z9:=Tryz.sizeOf9
 v9:=Tryz.zeroValue9
 t21:=Tryz.underlying21
 a21:=Tryz.isAgg21
 z21:=Tryz.sizeOf21
 v21:=Tryz.zeroValue21
 t31:=Tryz.underlying59
 a31:=Tryz.isAgg59
 z31:=Tryz.sizeOf59
 v31:=Tryz.zeroValue59
 t40:=Tryz.underlying342
 a40:=Tryz.isAgg342
 z40:=Tryz.sizeOf342
 v40:=Tryz.zeroValue342
 t152:=Tryz.underlying361
 a152:=Tryz.isAgg361
 z152:=Tryz.sizeOf361
 v152:=Tryz.zeroValue361
 t154:=Tryz.underlying363
 a154:=Tryz.isAgg363
 z154:=Tryz.sizeOf363
 v154:=Tryz.zeroValue363 }
open Go.RowKit Go.Lib in
theorem Kx.strings_FieldsFunc_grows (g:Nat) (lb:Array Value) (eg:∀ args w,(callFunc g args).run Tryz.prog w = .ok (.enter g args) w) (p:Nat->Bool) (s:ByteArray) (w:World) (hs:s.size<=4294967296) (hp:PredGrows Tryz.prog g lb p w) :
 Calls Tryz.prog 256 #[.string s,.func (.func g) #[] lb] w fun e w'=>∃ A,e = .returned (.slice (some ⟨A,0,none⟩) (Lib.goFieldsP p s).length (Lib.goFieldsP p s).length)/\w.heap.size<=A /\
  w'.ownsRow w.heap.size 9 1 (.slice (some ⟨A,0,none⟩) (Lib.goFieldsP p s).length (Lib.goFieldsP p s).length) (Lib.goFieldsP p s).length ((Lib.goFieldsP p s).map Value.string)/\Below w.heap.size w w':=Any.strings_FieldsFunc_grows Kx.lays229 g lb eg p s w hs hp (by kernel_rfl) (by kernel_rfl)
open Go.RowKit Go.Sort in
theorem Kx.slices_Sort_string_none (p:Option Addr) (cap:Nat) (w:World) :
 Calls Tryz.prog 277 #[.slice p 0 cap] w fun e w'=>e = .returned (.tuple #[])/\w' = w:=Any.slices_Sort_string_none Kx.lays190 p cap w
end Go.Proofs
