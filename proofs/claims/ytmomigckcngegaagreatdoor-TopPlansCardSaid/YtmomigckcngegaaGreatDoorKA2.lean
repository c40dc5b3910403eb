/-
  The kit's contracts of Go's library, laid at this program.
  No condition beyond those written in each theorem.
-/
import Derived.Shelf.Strings.Builder1
import Derived.Shelf.Strings.Builder2
import Derived.Shelf.Strings.OnBuilder
import Derived.Shelf.Strings.Trim
import Derived.Shelf.Small.Utf8
import Derived.Shelf.Small.Bits
import Derived.Shelf.Small.Strs
import Derived.Shelf.Small.Wraps
import Derived.Shelf.Strings.BuilderF
import Derived.Shelf.Strings.BuilderK
import Derived.Shelf.Strings.Builder2Cap
import Derived.Shelf.Strconv.Itoa0
import Derived.Shelf.Strconv.Itoa1
import Derived.Shelf.LaysM
import Derived.Shelf.Strconv.Itoa2
import Derived.Shelf.Strconv.Itoa3
import Derived.Shelf.Strings.Search1
import Derived.Shelf.Sort.Plain
import Derived.Shelf.Unicode.Decode
import Derived.Shelf.Strings.Runes
import Derived.Shelf.Strings.AsciiSet
import Derived.Shelf.Unicode.DecodeSlow
import Derived.Shelf.Unicode.DecodeAny
import Derived.Shelf.Strings.FieldsFuncAny
import Derived.Shelf.Strings.FieldsFuncGrows
import Derived.Shelf.Strings.BuilderCap
import Derived.Shelf.Slices.Turned
import Derived.Ground.Names2Prog
import Derived.Shelf.Slices.SearchI
import Derived.Shelf.Slices.In.SortNone
import Derived.Test.YtmomigckcngegaaGreatDoorProg
import Derived.Shelf.SlIter.Nil
import Derived.Shelf.SlSortCmp.NoneTotal
import Derived.Shelf.SlicesG.Cmp
set_option linter.unusedSimpArgs false
set_option linter.unusedVariables false
set_option maxRecDepth 4000
namespace Go.Proofs
open Go.Shelf
def Kx.lays156_ren:Go.Shelf.Ren:=⟨fun | 156=>216 | 165=>247 | 166=>236 | 169=>238 | 240=>256 | 241=>262 | 276=>269 | 277=>273 | n=>n,fun | 31=>28 | 9=>9 | 3=>3 | 4=>4 | 0=>0 | 20=>20 | 72=>267 | 76=>271 | 70=>265 | 37=>211 | 75=>270 | 127=>291 | 164=>303 | 5=>5 | 80=>273 | n=>n,fun | n=>n⟩
theorem Kx.lays156:Go.Proofs.Lays.n156 Tryz.prog Kx.lays156_ren:={
 mixed:=by kernel_rfl
 f156:=Tryz.func216.trans (congrArg some (by kernel_rfl))
 f165:=Tryz.func247.trans (congrArg some (by kernel_rfl))
 f166:=Tryz.func236.trans (congrArg some (by kernel_rfl))
 f169:=Tryz.func238.trans (congrArg some (by kernel_rfl))
 f240:=Tryz.func256.trans (congrArg some (by kernel_rfl))
 f241:=Tryz.func262.trans (congrArg some (by kernel_rfl))
 f276:=Tryz.func269.trans (congrArg some (by kernel_rfl))
 f277:=Tryz.func273.trans (congrArg some (by kernel_rfl))
 t0:=Tryz.underlying0
 a0:=Tryz.isAgg0
 z0:=Tryz.sizeOf0
 v0:=Tryz.zeroValue0
 t3:=Tryz.underlying3
 a3:=Tryz.isAgg3
 z3:=Tryz.sizeOf3
 v3:=Tryz.zeroValue3
 t4:=Tryz.underlying4
 a4:=Tryz.isAgg4
 z4:=Tryz.sizeOf4
 v4:=Tryz.zeroValue4
 t9:=Tryz.underlying9
 a9:=Tryz.isAgg9
 z9:=Tryz.sizeOf9
 v9:=Tryz.zeroValue9
 t20:=Tryz.underlying20
 a20:=Tryz.isAgg20
 z20:=Tryz.sizeOf20
 v20:=Tryz.zeroValue20
 t31:=Tryz.underlying28
 a31:=Tryz.isAgg28
 z31:=Tryz.sizeOf28
 v31:=Tryz.zeroValue28
 t37:=Tryz.underlying211
 a37:=Tryz.isAgg211
 z37:=Tryz.sizeOf211
 v37:=Tryz.zeroValue211
 t70:=Tryz.underlying265
 a70:=Tryz.isAgg265
 z70:=Tryz.sizeOf265
 v70:=Tryz.zeroValue265
 t72:=Tryz.underlying267
 a72:=Tryz.isAgg267
 z72:=Tryz.sizeOf267
 v72:=Tryz.zeroValue267
 t75:=Tryz.underlying270
 a75:=Tryz.isAgg270
 z75:=Tryz.sizeOf270
 v75:=Tryz.zeroValue270
 t76:=Tryz.underlying271
 a76:=Tryz.isAgg271
 z76:=Tryz.sizeOf271
 v76:=Tryz.zeroValue271
 t127:=Tryz.underlying291
 a127:=Tryz.isAgg291
 z127:=Tryz.sizeOf291
 v127:=Tryz.zeroValue291
 t164:=Tryz.underlying303
 a164:=Tryz.isAgg303
 z164:=Tryz.sizeOf303
 v164:=Tryz.zeroValue303 }
theorem Kx.Builder_Extra_156:Builder.Extra Tryz.prog Kx.lays156_ren:={
 sizeBuilder:=by kernel_rfl
 liesBuilder:=by kernel_rfl
 t5:=Tryz.underlying5
 a5:=Tryz.isAgg5
 z5:=Tryz.sizeOf5
 v5:=Tryz.zeroValue5
 infoByte:=by kernel_rfl
 cellsByte:=by kernel_rfl
 sizeByte:=by kernel_rfl
 neB5:=by decide }
open Go.RowKit in
theorem Kx.strings_Join_none (a:Option Addr) (c:Nat) (sep:ByteArray) (w:World) :
 Calls Tryz.prog 216 #[.slice a 0 c,.string sep] w fun e w'=>e = .returned (.string ⟨#[]⟩)∧w' = w:=Any.strings_Join_none Kx.lays156 Kx.Builder_Extra_156 a c sep w
open Go.RowKit in
theorem Kx.strings_Join (bk o c:Nat) (xs:List ByteArray) (sep:ByteArray) (w:World) (hcells:∀ (j:Nat) x,xs[j]? = some x→w.cell? ⟨bk,o+j,none⟩=some (.string x)) (hbk:bk<w.heap.size) (hN:xs.length≤140737488355328) (hcap:xs.length≤c) (hlen:(Lib.join (xs.map (·.data.toList)) sep.data.toList).length≤140737488355328) :
 Calls Tryz.prog 216 #[.slice (some ⟨bk,o,none⟩) xs.length c,.string sep] w fun e w'=>e = .returned (.string ⟨(Lib.join (xs.map (·.data.toList)) sep.data.toList).toArray⟩)∧Below w.heap.size w w':=Any.strings_Join Kx.lays156 Kx.Builder_Extra_156 bk o c xs sep w hcells hbk hN hcap hlen
def Kx.lays171_ren:Go.Shelf.Ren:=⟨fun | 171=>109 | 243=>148 | 246=>189 | 283=>224 | 284=>225 | 285=>226 | 286=>227 | 129=>101 | 317=>252 | 318=>253 | 319=>254 | 320=>255 | 337=>267 | 338=>268 | n=>n,fun | 3=>3 | 9=>9 | 2=>2 | 4=>4 | 171=>257 | 0=>0 | 53=>35 | 37=>211 | 5=>5 | 173=>259 | 212=>289 | 51=>177 | 20=>20 | 213=>290 | 46=>103 | 232=>312 | 233=>313 | n=>n,fun | 17=>0 | 18=>1 | 19=>2 | n=>n⟩
theorem Kx.lays171:Go.Proofs.Lays.n171 Tryz.prog Kx.lays171_ren:={
 mixed:=by kernel_rfl
 f129:=Tryz.func101.trans (congrArg some (by kernel_rfl))
 f171:=Tryz.func109.trans (congrArg some (by kernel_rfl))
 f243:=Tryz.func148.trans (congrArg some (by kernel_rfl))
 f246:=Tryz.func189.trans (congrArg some (by kernel_rfl))
 f283:=Tryz.func224.trans (congrArg some (by kernel_rfl))
 f284:=Tryz.func225.trans (congrArg some (by kernel_rfl))
 f285:=Tryz.func226.trans (congrArg some (by kernel_rfl))
 f286:=Tryz.func227.trans (congrArg some (by kernel_rfl))
 f317:=Tryz.func252.trans (congrArg some (by kernel_rfl))
 f318:=Tryz.func253.trans (congrArg some (by kernel_rfl))
 f319:=Tryz.func254.trans (congrArg some (by kernel_rfl))
 f320:=Tryz.func255.trans (congrArg some (by kernel_rfl))
 f337:=Tryz.func267.trans (congrArg some (by kernel_rfl))
 f338:=Tryz.func268.trans (congrArg some (by kernel_rfl))
 t0:=Tryz.underlying0
 a0:=Tryz.isAgg0
 z0:=Tryz.sizeOf0
 v0:=Tryz.zeroValue0
 t2:=Tryz.underlying2
 a2:=Tryz.isAgg2
 z2:=Tryz.sizeOf2
 v2:=Tryz.zeroValue2
 t3:=Tryz.underlying3
 a3:=Tryz.isAgg3
 z3:=Tryz.sizeOf3
 v3:=Tryz.zeroValue3
 t4:=Tryz.underlying4
 a4:=Tryz.isAgg4
 z4:=Tryz.sizeOf4
 v4:=Tryz.zeroValue4
 t5:=Tryz.underlying5
 a5:=Tryz.isAgg5
 z5:=Tryz.sizeOf5
 v5:=Tryz.zeroValue5
 t9:=Tryz.underlying9
 a9:=Tryz.isAgg9
 z9:=Tryz.sizeOf9
 v9:=Tryz.zeroValue9
 t20:=Tryz.underlying20
 a20:=Tryz.isAgg20
 z20:=Tryz.sizeOf20
 v20:=Tryz.zeroValue20
 t37:=Tryz.underlying211
 a37:=Tryz.isAgg211
 z37:=Tryz.sizeOf211
 v37:=Tryz.zeroValue211
 t46:=Tryz.underlying103
 a46:=Tryz.isAgg103
 z46:=Tryz.sizeOf103
 v46:=Tryz.zeroValue103
 t51:=Tryz.underlying177
 a51:=Tryz.isAgg177
 z51:=Tryz.sizeOf177
 v51:=Tryz.zeroValue177
 t53:=Tryz.underlying35
 a53:=Tryz.isAgg35
 z53:=Tryz.sizeOf35
 v53:=Tryz.zeroValue35
 t171:=Tryz.underlying257
 a171:=Tryz.isAgg257
 z171:=Tryz.sizeOf257
 v171:=Tryz.zeroValue257
 t173:=Tryz.underlying259
 a173:=Tryz.isAgg259
 z173:=Tryz.sizeOf259
 v173:=Tryz.zeroValue259
 t212:=Tryz.underlying289
 a212:=Tryz.isAgg289
 z212:=Tryz.sizeOf289
 v212:=Tryz.zeroValue289
 t213:=Tryz.underlying290
 a213:=Tryz.isAgg290
 z213:=Tryz.sizeOf290
 t232:=Tryz.underlying312
 a232:=Tryz.isAgg312
 z232:=Tryz.sizeOf312
 v232:=Tryz.zeroValue312
 t233:=Tryz.underlying313
 a233:=Tryz.isAgg313
 z233:=Tryz.sizeOf313
 v233:=Tryz.zeroValue313
 g17:=by kernel_rfl
 g18:=by kernel_rfl
 g19:=by kernel_rfl }
open Go.RowKit Go.Sort Go.Lib in
theorem Kx.strconv_Itoa_small (i:Nat) (hi:i<100) (w:World) :
 Calls Tryz.prog 109 #[.int .i64 i] w fun e w'=>e = .returned (.string ⟨(Lib.decDigits i).toArray⟩)∧w' = w:=Any.strconv_Itoa_small Kx.lays171 i hi w
def Kx.lays190_ren:Go.Shelf.Ren:=⟨fun | 190=>259 | 125=>59 | 258=>271 | 128=>100 | 129=>101 | 302=>277 | 303=>278 | 304=>279 | 305=>280 | 306=>281 | 307=>282 | 308=>283 | 309=>284 | 310=>285 | 333=>288 | 329=>140 | 330=>141 | 334=>289 | 335=>290 | 336=>291 | 344=>296 | n=>n,fun | 31=>28 | 9=>9 | 3=>3 | 46=>103 | 0=>0 | 51=>177 | 53=>35 | 4=>4 | 183=>171 | 182=>170 | 131=>132 | 5=>5 | 218=>215 | 222=>218 | 228=>231 | 229=>232 | n=>n,fun | n=>n⟩
theorem Kx.lays190:Go.Proofs.Lays.n190 Tryz.prog Kx.lays190_ren:={
 mixed:=by kernel_rfl
 f125:=Tryz.func59.trans (congrArg some (by kernel_rfl))
 f128:=Tryz.func100.trans (congrArg some (by kernel_rfl))
 f129:=Tryz.func101.trans (congrArg some (by kernel_rfl))
 f190:=Tryz.func259.trans (congrArg some (by kernel_rfl))
 f258:=Tryz.func271.trans (congrArg some (by kernel_rfl))
 f302:=Tryz.func277.trans (congrArg some (by kernel_rfl))
 f303:=Tryz.func278.trans (congrArg some (by kernel_rfl))
 f304:=Tryz.func279.trans (congrArg some (by kernel_rfl))
 f305:=Tryz.func280.trans (congrArg some (by kernel_rfl))
 f306:=Tryz.func281.trans (congrArg some (by kernel_rfl))
 f307:=Tryz.func282.trans (congrArg some (by kernel_rfl))
 f308:=Tryz.func283.trans (congrArg some (by kernel_rfl))
 f309:=Tryz.func284.trans (congrArg some (by kernel_rfl))
 f310:=Tryz.func285.trans (congrArg some (by kernel_rfl))
 f329:=Tryz.func140.trans (congrArg some (by kernel_rfl))
 f330:=Tryz.func141.trans (congrArg some (by kernel_rfl))
 f333:=Tryz.func288.trans (congrArg some (by kernel_rfl))
 f334:=Tryz.func289.trans (congrArg some (by kernel_rfl))
 f335:=Tryz.func290.trans (congrArg some (by kernel_rfl))
 f336:=Tryz.func291.trans (congrArg some (by kernel_rfl))
 f344:=Tryz.func296.trans (congrArg some (by kernel_rfl))
 t0:=Tryz.underlying0
 a0:=Tryz.isAgg0
 z0:=Tryz.sizeOf0
 v0:=Tryz.zeroValue0
 t3:=Tryz.underlying3
 a3:=Tryz.isAgg3
 z3:=Tryz.sizeOf3
 v3:=Tryz.zeroValue3
 t4:=Tryz.underlying4
 a4:=Tryz.isAgg4
 z4:=Tryz.sizeOf4
 v4:=Tryz.zeroValue4
 t5:=Tryz.underlying5
 a5:=Tryz.isAgg5
 z5:=Tryz.sizeOf5
 v5:=Tryz.zeroValue5
 t9:=Tryz.underlying9
 a9:=Tryz.isAgg9
 z9:=Tryz.sizeOf9
 v9:=Tryz.zeroValue9
 t31:=Tryz.underlying28
 a31:=Tryz.isAgg28
 z31:=Tryz.sizeOf28
 v31:=Tryz.zeroValue28
 t46:=Tryz.underlying103
 a46:=Tryz.isAgg103
 z46:=Tryz.sizeOf103
 v46:=Tryz.zeroValue103
 t51:=Tryz.underlying177
 a51:=Tryz.isAgg177
 z51:=Tryz.sizeOf177
 v51:=Tryz.zeroValue177
 t53:=Tryz.underlying35
 a53:=Tryz.isAgg35
 z53:=Tryz.sizeOf35
 v53:=Tryz.zeroValue35
 t131:=Tryz.underlying132
 a131:=Tryz.isAgg132
 z131:=Tryz.sizeOf132
 v131:=Tryz.zeroValue132
 t182:=Tryz.underlying170
 a182:=Tryz.isAgg170
 z182:=Tryz.sizeOf170
 v182:=Tryz.zeroValue170
 t183:=Tryz.underlying171
 a183:=Tryz.isAgg171
 z183:=Tryz.sizeOf171
 v183:=Tryz.zeroValue171
 t218:=Tryz.underlying215
 a218:=Tryz.isAgg215
 z218:=Tryz.sizeOf215
 v218:=Tryz.zeroValue215
 t222:=Tryz.underlying218
 a222:=Tryz.isAgg218
 z222:=Tryz.sizeOf218
 v222:=Tryz.zeroValue218
 t228:=Tryz.underlying231
 a228:=Tryz.isAgg231
 z228:=Tryz.sizeOf231
 v228:=Tryz.zeroValue231
 t229:=Tryz.underlying232
 a229:=Tryz.isAgg232
 z229:=Tryz.sizeOf232
 v229:=Tryz.zeroValue232 }
open Go.Sort Go.RowKit in
theorem Kx.slices_Sort_string (blk off cap:Nat) (ss:List (List UInt8)) (w:World) (hH:Holds encStr w blk off ss.toArray) (hblk:blk<w.heap.size) (hsz:ss.length<4611686018427387904) :
 Calls Tryz.prog 259 #[.slice (some ⟨blk,off,none⟩) ss.length cap] w fun e w' =>
  e = .returned (.tuple #[])∧∃ n os,w' = grow (putRow encStr (Sort.ahead w n) blk off (ss.mergeSort fun x y=>decide (x≤y)).toArray) os:=Any.slices_Sort_string Kx.lays190 blk off cap ss w hH hblk hsz
def Kx.lays229_ren:Go.Shelf.Ren:=⟨fun | 229=>239 | n=>n,fun | 9=>9 | 40=>275 | 31=>28 | 152=>292 | 3=>3 | 0=>0 | 4=>4 | 21=>21 | 154=>294 | n=>n,fun | n=>n⟩
theorem Kx.lays229:Go.Proofs.Lays.n229 Tryz.prog Kx.lays229_ren:={
 mixed:=by kernel_rfl
 f229:=Tryz.func239.trans (congrArg some (by kernel_rfl))
 t0:=Tryz.underlying0
 a0:=Tryz.isAgg0
 z0:=Tryz.sizeOf0
 v0:=Tryz.zeroValue0
 t3:=Tryz.underlying3
 a3:=Tryz.isAgg3
 z3:=Tryz.sizeOf3
 v3:=Tryz.zeroValue3
 t4:=Tryz.underlying4
 a4:=Tryz.isAgg4
 z4:=Tryz.sizeOf4
 v4:=Tryz.zeroValue4
 t9:=Tryz.underlying9
 a9:=Tryz.isAgg9
 z9:=Tryz.sizeOf9
 v9:=Tryz.zeroValue9
 t21:=Tryz.underlying21
 a21:=Tryz.isAgg21
 z21:=Tryz.sizeOf21
 v21:=Tryz.zeroValue21
 t31:=Tryz.underlying28
 a31:=Tryz.isAgg28
 z31:=Tryz.sizeOf28
 v31:=Tryz.zeroValue28
 t40:=Tryz.underlying275
 a40:=Tryz.isAgg275
 z40:=Tryz.sizeOf275
 v40:=Tryz.zeroValue275
 t152:=Tryz.underlying292
 a152:=Tryz.isAgg292
 z152:=Tryz.sizeOf292
 v152:=Tryz.zeroValue292
 t154:=Tryz.underlying294
 a154:=Tryz.isAgg294
 z154:=Tryz.sizeOf294
 v154:=Tryz.zeroValue294 }
open Go.RowKit Go.Lib in
theorem Kx.strings_FieldsFunc_grows (g:Nat) (lb:Array Value) (eg:∀ args w,(callFunc g args).run Tryz.prog w = .ok (.enter g args) w) (p:Nat→Bool) (s:ByteArray) (w:World) (hs:s.size≤4294967296) (hp:PredGrows Tryz.prog g lb p w) :
 Calls Tryz.prog 239 #[.string s,.func (.func g) #[] lb] w fun e w'=>∃ A,e = .returned (.slice (some ⟨A,0,none⟩) (Lib.goFieldsP p s).length (Lib.goFieldsP p s).length)∧w.heap.size≤A ∧
  w'.ownsRow w.heap.size 9 1 (.slice (some ⟨A,0,none⟩) (Lib.goFieldsP p s).length (Lib.goFieldsP p s).length) (Lib.goFieldsP p s).length ((Lib.goFieldsP p s).map Value.string)∧Below w.heap.size w w':=Any.strings_FieldsFunc_grows Kx.lays229 g lb eg p s w hs hp (by kernel_rfl) (by kernel_rfl)
open Go.RowKit Go.Sort in
theorem Kx.slices_Sort_string_none (p:Option Addr) (cap:Nat) (w:World) :
 Calls Tryz.prog 259 #[.slice p 0 cap] w fun e w'=>e = .returned (.tuple #[])∧w' = w:=Any.slices_Sort_string_none Kx.lays190 p cap w
end Go.Proofs
namespace Go.Proofs
open Go.Shelf
def Kx.keysA_ren:Go.Shelf.Ren:=⟨fun | 7=>242 | 10=>260 | n=>n,fun | 23=>281 | 26=>9 | 3=>282 | 28=>278 | 0=>0 | 27=>277 | 33=>123 | 4=>4 | n=>n,fun | n=>n⟩
theorem Kx.keysA:Go.Proofs.SlLaysZ.n7 Tryz.prog Kx.keysA_ren:={
 mixed:=by kernel_rfl
 f7:=⟨Tryz.f242.name,by decide,Tryz.func242.trans (congrArg some (by kernel_rfl))⟩
 f10:=⟨Tryz.f260.name,by decide,Tryz.func260.trans (congrArg some (by kernel_rfl))⟩
 t0:=Tryz.underlying0
 a0:=Tryz.isAgg0
 z0:=Tryz.sizeOf0
 v0:=Tryz.zeroValue0
 t4:=Tryz.underlying4
 a4:=Tryz.isAgg4
 z4:=Tryz.sizeOf4
 v4:=Tryz.zeroValue4
 t23:=Tryz.underlying281
 a23:=Tryz.isAgg281
 z23:=Tryz.sizeOf281
 v23:=Tryz.zeroValue281
 t26:=Tryz.underlying9
 a26:=Tryz.isAgg9
 z26:=Tryz.sizeOf9
 v26:=Tryz.zeroValue9
 t27:=Tryz.underlying277
 a27:=Tryz.isAgg277
 z27:=Tryz.sizeOf277
 v27:=Tryz.zeroValue277
 t28:=Tryz.underlying278
 a28:=Tryz.isAgg278
 z28:=Tryz.sizeOf278
 v28:=Tryz.zeroValue278
 t33:=Tryz.underlying123
 a33:=Tryz.isAgg123
 z33:=Tryz.sizeOf123
 v33:=Tryz.zeroValue123 }
def Kx.sortedA_ren:Go.Shelf.Ren:=⟨fun | 6=>241 | 8=>258 | 9=>259 | 11=>270 | 13=>59 | 12=>271 | 23=>100 | 24=>101 | 14=>277 | 15=>278 | 16=>279 | 17=>280 | 18=>281 | 19=>282 | 20=>283 | 21=>284 | 22=>285 | 25=>288 | 26=>140 | 27=>141 | 28=>289 | 29=>290 | 30=>291 | 31=>296 | n=>n,fun | 26=>9 | 28=>278 | 24=>28 | 0=>0 | 3=>3 | 37=>103 | 48=>177 | 50=>35 | 4=>4 | 40=>171 | 39=>170 | 45=>132 | 5=>5 | 9=>9 | 51=>215 | 55=>218 | 57=>231 | 58=>232 | 33=>123 | n=>n,fun | n=>n⟩
theorem Kx.sortedA:Go.Proofs.SlLaysZ.n6 Tryz.prog Kx.sortedA_ren:={
 mixed:=by kernel_rfl
 f6:=⟨Tryz.f241.name,by decide,Tryz.func241.trans (congrArg some (by kernel_rfl))⟩
 f8:=⟨Tryz.f258.name,by decide,Tryz.func258.trans (congrArg some (by kernel_rfl))⟩
 f11:=⟨Tryz.f270.name,by decide,Tryz.func270.trans (congrArg some (by kernel_rfl))⟩
 t0:=Tryz.underlying0
 a0:=Tryz.isAgg0
 z0:=Tryz.sizeOf0
 v0:=Tryz.zeroValue0
 t24:=Tryz.underlying28
 a24:=Tryz.isAgg28
 z24:=Tryz.sizeOf28
 v24:=Tryz.zeroValue28
 t26:=Tryz.underlying9
 a26:=Tryz.isAgg9
 z26:=Tryz.sizeOf9
 v26:=Tryz.zeroValue9
 t28:=Tryz.underlying278
 a28:=Tryz.isAgg278
 z28:=Tryz.sizeOf278
 v28:=Tryz.zeroValue278
 i26:=by kernel_rfl }
def Kx.sortC_ren:Go.Shelf.Ren:=⟨fun | 6=>27 | 15=>59 | 14=>58 | 28=>100 | 29=>101 | 20=>92 | 21=>93 | 22=>94 | 23=>95 | 24=>96 | 25=>97 | 26=>98 | 27=>99 | 46=>139 | 47=>140 | 48=>141 | 49=>142 | 50=>143 | 57=>179 | n=>n,fun | 22=>41 | 24=>87 | 25=>91 | 3=>3 | 39=>103 | 0=>0 | 53=>177 | 55=>35 | 4=>4 | 46=>171 | 45=>170 | 50=>132 | 5=>5 | 9=>9 | 66=>215 | 70=>218 | 76=>231 | 77=>232 | n=>n,fun | n=>n⟩
theorem Kx.sortC:Go.Proofs.SlLaysF0.n6 Tryz.prog Kx.sortC_ren:={
 mixed:=by kernel_rfl
 f6:=⟨Tryz.f27.name,by decide,Tryz.func27.trans (congrArg some (by kernel_rfl))⟩
 f14:=⟨Tryz.f58.name,by decide,Tryz.func58.trans (congrArg some (by kernel_rfl))⟩
 f15:=Tryz.func59.trans (congrArg some (by kernel_rfl))
 f20:=⟨Tryz.f92.name,by decide,Tryz.func92.trans (congrArg some (by kernel_rfl))⟩
 f21:=⟨Tryz.f93.name,by decide,Tryz.func93.trans (congrArg some (by kernel_rfl))⟩
 f22:=⟨Tryz.f94.name,by decide,Tryz.func94.trans (congrArg some (by kernel_rfl))⟩
 f23:=⟨Tryz.f95.name,by decide,Tryz.func95.trans (congrArg some (by kernel_rfl))⟩
 f24:=⟨Tryz.f96.name,by decide,Tryz.func96.trans (congrArg some (by kernel_rfl))⟩
 f25:=⟨Tryz.f97.name,by decide,Tryz.func97.trans (congrArg some (by kernel_rfl))⟩
 f26:=⟨Tryz.f98.name,by decide,Tryz.func98.trans (congrArg some (by kernel_rfl))⟩
 f27:=⟨Tryz.f99.name,by decide,Tryz.func99.trans (congrArg some (by kernel_rfl))⟩
 f28:=Tryz.func100.trans (congrArg some (by kernel_rfl))
 f29:=Tryz.func101.trans (congrArg some (by kernel_rfl))
 f46:=⟨Tryz.f139.name,by decide,Tryz.func139.trans (congrArg some (by kernel_rfl))⟩
 f47:=Tryz.func140.trans (congrArg some (by kernel_rfl))
 f48:=Tryz.func141.trans (congrArg some (by kernel_rfl))
 f49:=⟨Tryz.f142.name,by decide,Tryz.func142.trans (congrArg some (by kernel_rfl))⟩
 f50:=⟨Tryz.f143.name,by decide,Tryz.func143.trans (congrArg some (by kernel_rfl))⟩
 f57:=⟨Tryz.f179.name,by decide,Tryz.func179.trans (congrArg some (by kernel_rfl))⟩
 t0:=Tryz.underlying0
 a0:=Tryz.isAgg0
 z0:=Tryz.sizeOf0
 v0:=Tryz.zeroValue0
 t3:=Tryz.underlying3
 a3:=Tryz.isAgg3
 z3:=Tryz.sizeOf3
 v3:=Tryz.zeroValue3
 t4:=Tryz.underlying4
 a4:=Tryz.isAgg4
 z4:=Tryz.sizeOf4
 v4:=Tryz.zeroValue4
 t5:=Tryz.underlying5
 a5:=Tryz.isAgg5
 z5:=Tryz.sizeOf5
 v5:=Tryz.zeroValue5
 t9:=Tryz.underlying9
 a9:=Tryz.isAgg9
 z9:=Tryz.sizeOf9
 v9:=Tryz.zeroValue9
 t22:=Tryz.underlying41
 a22:=Tryz.isAgg41
 z22:=Tryz.sizeOf41
 v22:=Tryz.zeroValue41
 t25:=Tryz.underlying91
 a25:=Tryz.isAgg91
 z25:=Tryz.sizeOf91
 v25:=Tryz.zeroValue91
 t39:=Tryz.underlying103
 a39:=Tryz.isAgg103
 z39:=Tryz.sizeOf103
 v39:=Tryz.zeroValue103
 t45:=Tryz.underlying170
 a45:=Tryz.isAgg170
 z45:=Tryz.sizeOf170
 v45:=Tryz.zeroValue170
 t46:=Tryz.underlying171
 a46:=Tryz.isAgg171
 z46:=Tryz.sizeOf171
 v46:=Tryz.zeroValue171
 t50:=Tryz.underlying132
 a50:=Tryz.isAgg132
 z50:=Tryz.sizeOf132
 v50:=Tryz.zeroValue132
 t53:=Tryz.underlying177
 a53:=Tryz.isAgg177
 z53:=Tryz.sizeOf177
 v53:=Tryz.zeroValue177
 t55:=Tryz.underlying35
 a55:=Tryz.isAgg35
 z55:=Tryz.sizeOf35
 v55:=Tryz.zeroValue35
 t66:=Tryz.underlying215
 a66:=Tryz.isAgg215
 z66:=Tryz.sizeOf215
 v66:=Tryz.zeroValue215
 t70:=Tryz.underlying218
 a70:=Tryz.isAgg218
 z70:=Tryz.sizeOf218
 v70:=Tryz.zeroValue218
 t76:=Tryz.underlying231
 a76:=Tryz.isAgg231
 z76:=Tryz.sizeOf231
 v76:=Tryz.zeroValue231
 t77:=Tryz.underlying232
 a77:=Tryz.isAgg232
 z77:=Tryz.sizeOf232
 v77:=Tryz.zeroValue232 }
def Kx.sortU_ren:Go.Shelf.Ren:=⟨fun | 6=>44 | 15=>59 | 14=>76 | 28=>100 | 29=>101 | 20=>118 | 21=>119 | 22=>120 | 23=>121 | 24=>122 | 25=>123 | 26=>124 | 27=>125 | 46=>159 | 47=>140 | 48=>141 | 49=>160 | 50=>161 | 57=>207 | n=>n,fun | 22=>56 | 24=>102 | 25=>110 | 3=>3 | 39=>103 | 0=>0 | 53=>177 | 55=>35 | 4=>4 | 46=>171 | 45=>170 | 50=>132 | 5=>5 | 9=>9 | 66=>215 | 70=>218 | 76=>231 | 77=>232 | n=>n,fun | n=>n⟩
theorem Kx.sortU:Go.Proofs.SlLaysF0.n6 Tryz.prog Kx.sortU_ren:={
 mixed:=by kernel_rfl
 f6:=⟨Tryz.f44.name,by decide,Tryz.func44.trans (congrArg some (by kernel_rfl))⟩
 f14:=⟨Tryz.f76.name,by decide,Tryz.func76.trans (congrArg some (by kernel_rfl))⟩
 f15:=Tryz.func59.trans (congrArg some (by kernel_rfl))
 f20:=⟨Tryz.f118.name,by decide,Tryz.func118.trans (congrArg some (by kernel_rfl))⟩
 f21:=⟨Tryz.f119.name,by decide,Tryz.func119.trans (congrArg some (by kernel_rfl))⟩
 f22:=⟨Tryz.f120.name,by decide,Tryz.func120.trans (congrArg some (by kernel_rfl))⟩
 f23:=⟨Tryz.f121.name,by decide,Tryz.func121.trans (congrArg some (by kernel_rfl))⟩
 f24:=⟨Tryz.f122.name,by decide,Tryz.func122.trans (congrArg some (by kernel_rfl))⟩
 f25:=⟨Tryz.f123.name,by decide,Tryz.func123.trans (congrArg some (by kernel_rfl))⟩
 f26:=⟨Tryz.f124.name,by decide,Tryz.func124.trans (congrArg some (by kernel_rfl))⟩
 f27:=⟨Tryz.f125.name,by decide,Tryz.func125.trans (congrArg some (by kernel_rfl))⟩
 f28:=Tryz.func100.trans (congrArg some (by kernel_rfl))
 f29:=Tryz.func101.trans (congrArg some (by kernel_rfl))
 f46:=⟨Tryz.f159.name,by decide,Tryz.func159.trans (congrArg some (by kernel_rfl))⟩
 f47:=Tryz.func140.trans (congrArg some (by kernel_rfl))
 f48:=Tryz.func141.trans (congrArg some (by kernel_rfl))
 f49:=⟨Tryz.f160.name,by decide,Tryz.func160.trans (congrArg some (by kernel_rfl))⟩
 f50:=⟨Tryz.f161.name,by decide,Tryz.func161.trans (congrArg some (by kernel_rfl))⟩
 f57:=⟨Tryz.f207.name,by decide,Tryz.func207.trans (congrArg some (by kernel_rfl))⟩
 t0:=Tryz.underlying0
 a0:=Tryz.isAgg0
 z0:=Tryz.sizeOf0
 v0:=Tryz.zeroValue0
 t3:=Tryz.underlying3
 a3:=Tryz.isAgg3
 z3:=Tryz.sizeOf3
 v3:=Tryz.zeroValue3
 t4:=Tryz.underlying4
 a4:=Tryz.isAgg4
 z4:=Tryz.sizeOf4
 v4:=Tryz.zeroValue4
 t5:=Tryz.underlying5
 a5:=Tryz.isAgg5
 z5:=Tryz.sizeOf5
 v5:=Tryz.zeroValue5
 t9:=Tryz.underlying9
 a9:=Tryz.isAgg9
 z9:=Tryz.sizeOf9
 v9:=Tryz.zeroValue9
 t22:=Tryz.underlying56
 a22:=Tryz.isAgg56
 z22:=Tryz.sizeOf56
 v22:=Tryz.zeroValue56
 t25:=Tryz.underlying110
 a25:=Tryz.isAgg110
 z25:=Tryz.sizeOf110
 v25:=Tryz.zeroValue110
 t39:=Tryz.underlying103
 a39:=Tryz.isAgg103
 z39:=Tryz.sizeOf103
 v39:=Tryz.zeroValue103
 t45:=Tryz.underlying170
 a45:=Tryz.isAgg170
 z45:=Tryz.sizeOf170
 v45:=Tryz.zeroValue170
 t46:=Tryz.underlying171
 a46:=Tryz.isAgg171
 z46:=Tryz.sizeOf171
 v46:=Tryz.zeroValue171
 t50:=Tryz.underlying132
 a50:=Tryz.isAgg132
 z50:=Tryz.sizeOf132
 v50:=Tryz.zeroValue132
 t53:=Tryz.underlying177
 a53:=Tryz.isAgg177
 z53:=Tryz.sizeOf177
 v53:=Tryz.zeroValue177
 t55:=Tryz.underlying35
 a55:=Tryz.isAgg35
 z55:=Tryz.sizeOf35
 v55:=Tryz.zeroValue35
 t66:=Tryz.underlying215
 a66:=Tryz.isAgg215
 z66:=Tryz.sizeOf215
 v66:=Tryz.zeroValue215
 t70:=Tryz.underlying218
 a70:=Tryz.isAgg218
 z70:=Tryz.sizeOf218
 v70:=Tryz.zeroValue218
 t76:=Tryz.underlying231
 a76:=Tryz.isAgg231
 z76:=Tryz.sizeOf231
 v76:=Tryz.zeroValue231
 t77:=Tryz.underlying232
 a77:=Tryz.isAgg232
 z77:=Tryz.sizeOf232
 v77:=Tryz.zeroValue232 }
def Kx.cmpI_ren:Go.Shelf.Ren:=⟨fun | 5=>30 | 7=>60 | n=>n,fun | 22=>3 | 3=>3 | 4=>4 | n=>n,fun | n=>n⟩
theorem Kx.cmpI:Go.Proofs.SlLaysC2.n5 Tryz.prog Kx.cmpI_ren:={
 mixed:=by kernel_rfl
 f5:=⟨Tryz.f30.name,by decide,Tryz.func30.trans (congrArg some (by kernel_rfl))⟩
 f7:=⟨Tryz.f60.name,by decide,Tryz.func60.trans (congrArg some (by kernel_rfl))⟩
 t3:=Tryz.underlying3
 a3:=Tryz.isAgg3
 z3:=Tryz.sizeOf3
 v3:=Tryz.zeroValue3
 t4:=Tryz.underlying4
 a4:=Tryz.isAgg4
 z4:=Tryz.sizeOf4
 v4:=Tryz.zeroValue4
 t22:=Tryz.underlying3
 a22:=Tryz.isAgg3
 z22:=Tryz.sizeOf3
 v22:=Tryz.zeroValue3 }
end Go.Proofs
