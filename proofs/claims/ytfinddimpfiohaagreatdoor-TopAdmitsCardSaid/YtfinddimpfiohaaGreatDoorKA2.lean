/-
  The kit's contracts of Go's library, laid at this program.
  No condition beyond those written in each theorem.
-/
import Derived.Shelf.Strings.Builder1
import Derived.Shelf.Strings.Builder2
import Derived.Shelf.Strings.OnBuilder
import Derived.Shelf.Strings.Trim
import Derived.Shelf.Small.Utf8
import Derived.Shelf.Small.Bits
import Derived.Shelf.Small.Strs
import Derived.Shelf.Small.Wraps
import Derived.Shelf.Strings.BuilderF
import Derived.Shelf.Strings.BuilderK
import Derived.Shelf.Strings.Builder2Cap
import Derived.Shelf.Strconv.Itoa0
import Derived.Shelf.Strconv.Itoa1
import Derived.Shelf.LaysM
import Derived.Shelf.Strconv.Itoa2
import Derived.Shelf.Strconv.Itoa3
import Derived.Shelf.Strings.Search1
import Derived.Shelf.Sort.Plain
import Derived.Shelf.Strings.Prefix
import Derived.Shelf.Unicode.Decode
import Derived.Shelf.Strings.Runes
import Derived.Shelf.Strings.AsciiSet
import Derived.Shelf.Bits.Mul64
import Derived.Shelf.Strings.Repeat
import Derived.Shelf.Unicode.DecodeSlow
import Derived.Shelf.Unicode.DecodeAny
import Derived.Shelf.Strings.FieldsFuncAny
import Derived.Shelf.Strings.FieldsFuncGrows
import Derived.Shelf.Strings.BuilderCap
import Derived.Shelf.Slices.Turned
import Derived.Ground.Names2Prog
import Derived.Shelf.Slices.Clone
import Derived.Shelf.Slices.SearchI
import Derived.Shelf.Slices.In.SortNone
import Derived.Ground.SlgnProg
import Derived.Shelf.SlicesE.Clone
import Derived.Test.YtfinddimpfiohaaGreatDoorProg
set_option linter.unusedSimpArgs false
set_option linter.unusedVariables false
set_option maxRecDepth 4000
namespace Go.Proofs
open Go.Shelf
def Kx.lays156_ren:Go.Shelf.Ren:=⟨fun | 156=>192 | 165=>254 | 166=>130 | 169=>134 | 240=>191 | 241=>296 | 276=>253 | 277=>340 | n=>n,fun | 31=>28 | 9=>9 | 3=>3 | 4=>4 | 0=>0 | 20=>20 | 72=>239 | 76=>242 | 70=>237 | 37=>224 | 75=>241 | 127=>301 | 164=>331 | 5=>5 | 80=>247 | n=>n,fun | n=>n⟩
theorem Kx.lays156:Go.Proofs.Lays.n156 Tryz.prog Kx.lays156_ren:={
 mixed:=by kernel_rfl
 f156:=Tryz.func192.trans (congrArg some (by kernel_rfl))
 f165:=Tryz.func254.trans (congrArg some (by kernel_rfl))
 f166:=Tryz.func130.trans (congrArg some (by kernel_rfl))
 f169:=Tryz.func134.trans (congrArg some (by kernel_rfl))
 f240:=Tryz.func191.trans (congrArg some (by kernel_rfl))
 f241:=Tryz.func296.trans (congrArg some (by kernel_rfl))
 f276:=Tryz.func253.trans (congrArg some (by kernel_rfl))
 f277:=Tryz.func340.trans (congrArg some (by kernel_rfl))
 t0:=Tryz.underlying0
 a0:=Tryz.isAgg0
 z0:=Tryz.sizeOf0
 v0:=Tryz.zeroValue0
 t3:=Tryz.underlying3
 a3:=Tryz.isAgg3
 z3:=Tryz.sizeOf3
 v3:=Tryz.zeroValue3
 t4:=Tryz.underlying4
 a4:=Tryz.isAgg4
 z4:=Tryz.sizeOf4
 v4:=Tryz.zeroValue4
 t9:=Tryz.underlying9
 a9:=Tryz.isAgg9
 z9:=Tryz.sizeOf9
 v9:=Tryz.zeroValue9
 t20:=Tryz.underlying20
 a20:=Tryz.isAgg20
 z20:=Tryz.sizeOf20
 v20:=Tryz.zeroValue20
 t31:=Tryz.underlying28
 a31:=Tryz.isAgg28
 z31:=Tryz.sizeOf28
 v31:=Tryz.zeroValue28
 t37:=Tryz.underlying224
 a37:=Tryz.isAgg224
 z37:=Tryz.sizeOf224
 v37:=Tryz.zeroValue224
 t70:=Tryz.underlying237
 a70:=Tryz.isAgg237
 z70:=Tryz.sizeOf237
 v70:=Tryz.zeroValue237
 t72:=Tryz.underlying239
 a72:=Tryz.isAgg239
 z72:=Tryz.sizeOf239
 v72:=Tryz.zeroValue239
 t75:=Tryz.underlying241
 a75:=Tryz.isAgg241
 z75:=Tryz.sizeOf241
 v75:=Tryz.zeroValue241
 t76:=Tryz.underlying242
 a76:=Tryz.isAgg242
 z76:=Tryz.sizeOf242
 v76:=Tryz.zeroValue242
 t127:=Tryz.underlying301
 a127:=Tryz.isAgg301
 z127:=Tryz.sizeOf301
 v127:=Tryz.zeroValue301
 t164:=Tryz.underlying331
 a164:=Tryz.isAgg331
 z164:=Tryz.sizeOf331
 v164:=Tryz.zeroValue331 }
theorem Kx.Builder_Extra_156:Builder.Extra Tryz.prog Kx.lays156_ren:={
 sizeBuilder:=by kernel_rfl
 liesBuilder:=by kernel_rfl
 t5:=Tryz.underlying5
 a5:=Tryz.isAgg5
 z5:=Tryz.sizeOf5
 v5:=Tryz.zeroValue5
 infoByte:=by kernel_rfl
 cellsByte:=by kernel_rfl
 sizeByte:=by kernel_rfl
 neB5:=by decide }
open Go.RowKit in
theorem Kx.strings_Join_none (a:Option Addr) (c:Nat) (sep:ByteArray) (w:World) :
 Calls Tryz.prog 192 #[.slice a 0 c,.string sep] w fun e w'=>e = .returned (.string ⟨#[]⟩)/\w' = w:=Any.strings_Join_none Kx.lays156 Kx.Builder_Extra_156 a c sep w
open Go.RowKit in
theorem Kx.strings_Join (bk o c:Nat) (xs:List ByteArray) (sep:ByteArray) (w:World) (hcells:∀ (j:Nat) x,xs[j]? = some x->w.cell? ⟨bk,o+j,none⟩=some (.string x)) (hbk:bk<w.heap.size) (hN:xs.length<=140737488355328) (hcap:xs.length<=c) (hlen:(Lib.join (xs.map (·.data.toList)) sep.data.toList).length<=140737488355328) :
 Calls Tryz.prog 192 #[.slice (some ⟨bk,o,none⟩) xs.length c,.string sep] w fun e w'=>e = .returned (.string ⟨(Lib.join (xs.map (·.data.toList)) sep.data.toList).toArray⟩)/\Below w.heap.size w w':=Any.strings_Join Kx.lays156 Kx.Builder_Extra_156 bk o c xs sep w hcells hbk hN hcap hlen
def Kx.laysM171_ren:Go.Shelf.Ren:=⟨fun | 171=>37 | 243=>73 | 246=>118 | 283=>177 | 284=>178 | 285=>179 | 286=>180 | 129=>240 | 317=>243 | 318=>244 | 319=>245 | 320=>246 | 337=>291 | 338=>292 | n=>n,fun | 3=>3 | 9=>9 | 2=>2 | 4=>4 | 171=>286 | 0=>0 | 53=>43 | 37=>224 | 5=>5 | 173=>288 | 212=>326 | 51=>321 | 20=>20 | 213=>327 | 46=>103 | 232=>383 | 233=>384 | n=>n,fun | 17=>0 | 18=>1 | 19=>2 | n=>n⟩
theorem Kx.laysM171:Go.Proofs.LaysM.n171 Tryz.prog Kx.laysM171_ren:={
 mixed:=by kernel_rfl
 f129:=Tryz.func240.trans (congrArg some (by kernel_rfl))
 f171:=Tryz.func37.trans (congrArg some (by kernel_rfl))
 f243:=Tryz.func73.trans (congrArg some (by kernel_rfl))
 f246:=Tryz.func118.trans (congrArg some (by kernel_rfl))
 f283:=Tryz.func177.trans (congrArg some (by kernel_rfl))
 f284:=Tryz.func178.trans (congrArg some (by kernel_rfl))
 f285:=Tryz.func179.trans (congrArg some (by kernel_rfl))
 f286:=Tryz.func180.trans (congrArg some (by kernel_rfl))
 f317:=Tryz.func243.trans (congrArg some (by kernel_rfl))
 f318:=Tryz.func244.trans (congrArg some (by kernel_rfl))
 f319:=Tryz.func245.trans (congrArg some (by kernel_rfl))
 f320:=Tryz.func246.trans (congrArg some (by kernel_rfl))
 f337:=Tryz.func291.trans (congrArg some (by kernel_rfl))
 f338:=Tryz.func292.trans (congrArg some (by kernel_rfl))
 t0:=Tryz.underlying0
 a0:=Tryz.isAgg0
 z0:=Tryz.sizeOf0
 v0:=Tryz.zeroValue0
 t2:=Tryz.underlying2
 a2:=Tryz.isAgg2
 z2:=Tryz.sizeOf2
 v2:=Tryz.zeroValue2
 t3:=Tryz.underlying3
 a3:=Tryz.isAgg3
 z3:=Tryz.sizeOf3
 v3:=Tryz.zeroValue3
 t4:=Tryz.underlying4
 a4:=Tryz.isAgg4
 z4:=Tryz.sizeOf4
 v4:=Tryz.zeroValue4
 t5:=Tryz.underlying5
 a5:=Tryz.isAgg5
 z5:=Tryz.sizeOf5
 v5:=Tryz.zeroValue5
 t9:=Tryz.underlying9
 a9:=Tryz.isAgg9
 z9:=Tryz.sizeOf9
 v9:=Tryz.zeroValue9
 t20:=Tryz.underlying20
 a20:=Tryz.isAgg20
 z20:=Tryz.sizeOf20
 v20:=Tryz.zeroValue20
 t37:=Tryz.underlying224
 a37:=Tryz.isAgg224
 z37:=Tryz.sizeOf224
 v37:=Tryz.zeroValue224
 t46:=Tryz.underlying103
 a46:=Tryz.isAgg103
 z46:=Tryz.sizeOf103
 v46:=Tryz.zeroValue103
 t51:=Tryz.underlying321
 a51:=Tryz.isAgg321
 z51:=Tryz.sizeOf321
 v51:=Tryz.zeroValue321
 t53:=Tryz.underlying43
 a53:=Tryz.isAgg43
 z53:=Tryz.sizeOf43
 v53:=Tryz.zeroValue43
 t171:=Tryz.underlying286
 a171:=Tryz.isAgg286
 z171:=Tryz.sizeOf286
 v171:=Tryz.zeroValue286
 t173:=Tryz.underlying288
 a173:=Tryz.isAgg288
 z173:=Tryz.sizeOf288
 v173:=Tryz.zeroValue288
 t212:=Tryz.underlying326
 a212:=Tryz.isAgg326
 z212:=Tryz.sizeOf326
 v212:=Tryz.zeroValue326
 t213:=Tryz.underlying327
 a213:=Tryz.isAgg327
 z213:=Tryz.sizeOf327
 t232:=Tryz.underlying383
 a232:=Tryz.isAgg383
 z232:=Tryz.sizeOf383
 v232:=Tryz.zeroValue383
 t233:=Tryz.underlying384
 a233:=Tryz.isAgg384
 z233:=Tryz.sizeOf384
 v233:=Tryz.zeroValue384
 g17:=by kernel_rfl
 g18:=by kernel_rfl
 g19:=by kernel_rfl
 i0:=by kernel_rfl
 i2:=by kernel_rfl
 i3:=by kernel_rfl
 i4:=by kernel_rfl
 i5:=by kernel_rfl
 i9:=by kernel_rfl
 i20:=by kernel_rfl
 i37:=by kernel_rfl
 i46:=by kernel_rfl
 i51:=by kernel_rfl
 i53:=by kernel_rfl
 i171:=by kernel_rfl
 i173:=by kernel_rfl
 i212:=by kernel_rfl
 i232:=by kernel_rfl
 i233:=by kernel_rfl
 m17:=by kernel_rfl
 m18:=by kernel_rfl
 m19:=by kernel_rfl }
open Go.RowKit Go.Sort Go.Lib in
theorem Kx.strconv_Itoa (n:Int) (h0 : -9223372036854775808<=n) (h1:n<=9223372036854775807) (w:World) (htab:Lib.TabIs Tryz.prog w "internal/strconv.uint64pow10" .u64 Lib.pow10Tab) :
 Calls Tryz.prog 37 #[.int .i64 n] w fun e w'=>e = .returned (.string ⟨(Lib.itoa n).toArray⟩)/\∃ k os,w' = grow (w.drewN k) os:=Any.strconv_Itoa Kx.laysM171 n h0 h1 w htab
def Kx.lays190_ren:Go.Shelf.Ren:=⟨fun | 190=>343 | 125=>170 | 258=>357 | 128=>239 | 129=>240 | 302=>364 | 303=>365 | 304=>366 | 305=>367 | 306=>368 | 307=>369 | 308=>370 | 309=>371 | 310=>372 | 333=>375 | 329=>287 | 330=>288 | 334=>376 | 335=>377 | 336=>378 | 344=>383 | n=>n,fun | 31=>28 | 9=>9 | 3=>3 | 46=>103 | 0=>0 | 51=>321 | 53=>43 | 4=>4 | 183=>315 | 182=>314 | 131=>216 | 5=>5 | 218=>346 | 222=>349 | 228=>380 | 229=>381 | n=>n,fun | n=>n⟩
theorem Kx.lays190:Go.Proofs.Lays.n190 Tryz.prog Kx.lays190_ren:={
 mixed:=by kernel_rfl
 f125:=Tryz.func170.trans (congrArg some (by kernel_rfl))
 f128:=Tryz.func239.trans (congrArg some (by kernel_rfl))
 f129:=Tryz.func240.trans (congrArg some (by kernel_rfl))
 f190:=Tryz.func343.trans (congrArg some (by kernel_rfl))
 f258:=Tryz.func357.trans (congrArg some (by kernel_rfl))
 f302:=Tryz.func364.trans (congrArg some (by kernel_rfl))
 f303:=Tryz.func365.trans (congrArg some (by kernel_rfl))
 f304:=Tryz.func366.trans (congrArg some (by kernel_rfl))
 f305:=Tryz.func367.trans (congrArg some (by kernel_rfl))
 f306:=Tryz.func368.trans (congrArg some (by kernel_rfl))
 f307:=Tryz.func369.trans (congrArg some (by kernel_rfl))
 f308:=Tryz.func370.trans (congrArg some (by kernel_rfl))
 f309:=Tryz.func371.trans (congrArg some (by kernel_rfl))
 f310:=Tryz.func372.trans (congrArg some (by kernel_rfl))
 f329:=Tryz.func287.trans (congrArg some (by kernel_rfl))
 f330:=Tryz.func288.trans (congrArg some (by kernel_rfl))
 f333:=Tryz.func375.trans (congrArg some (by kernel_rfl))
 f334:=Tryz.func376.trans (congrArg some (by kernel_rfl))
 f335:=Tryz.func377.trans (congrArg some (by kernel_rfl))
 f336:=Tryz.func378.trans (congrArg some (by kernel_rfl))
 f344:=Tryz.func383.trans (congrArg some (by kernel_rfl))
 t0:=Tryz.underlying0
 a0:=Tryz.isAgg0
 z0:=Tryz.sizeOf0
 v0:=Tryz.zeroValue0
 t3:=Tryz.underlying3
 a3:=Tryz.isAgg3
 z3:=Tryz.sizeOf3
 v3:=Tryz.zeroValue3
 t4:=Tryz.underlying4
 a4:=Tryz.isAgg4
 z4:=Tryz.sizeOf4
 v4:=Tryz.zeroValue4
 t5:=Tryz.underlying5
 a5:=Tryz.isAgg5
 z5:=Tryz.sizeOf5
 v5:=Tryz.zeroValue5
 t9:=Tryz.underlying9
 a9:=Tryz.isAgg9
 z9:=Tryz.sizeOf9
 v9:=Tryz.zeroValue9
 t31:=Tryz.underlying28
 a31:=Tryz.isAgg28
 z31:=Tryz.sizeOf28
 v31:=Tryz.zeroValue28
 t46:=Tryz.underlying103
 a46:=Tryz.isAgg103
 z46:=Tryz.sizeOf103
 v46:=Tryz.zeroValue103
 t51:=Tryz.underlying321
 a51:=Tryz.isAgg321
 z51:=Tryz.sizeOf321
 v51:=Tryz.zeroValue321
 t53:=Tryz.underlying43
 a53:=Tryz.isAgg43
 z53:=Tryz.sizeOf43
 v53:=Tryz.zeroValue43
 t131:=Tryz.underlying216
 a131:=Tryz.isAgg216
 z131:=Tryz.sizeOf216
 v131:=Tryz.zeroValue216
 t182:=Tryz.underlying314
 a182:=Tryz.isAgg314
 z182:=Tryz.sizeOf314
 v182:=Tryz.zeroValue314
 t183:=Tryz.underlying315
 a183:=Tryz.isAgg315
 z183:=Tryz.sizeOf315
 v183:=Tryz.zeroValue315
 t218:=Tryz.underlying346
 a218:=Tryz.isAgg346
 z218:=Tryz.sizeOf346
 v218:=Tryz.zeroValue346
 t222:=Tryz.underlying349
 a222:=Tryz.isAgg349
 z222:=Tryz.sizeOf349
 v222:=Tryz.zeroValue349
 t228:=Tryz.underlying380
 a228:=Tryz.isAgg380
 z228:=Tryz.sizeOf380
 v228:=Tryz.zeroValue380
 t229:=Tryz.underlying381
 a229:=Tryz.isAgg381
 z229:=Tryz.sizeOf381
 v229:=Tryz.zeroValue381 }
open Go.Sort Go.RowKit in
theorem Kx.slices_Sort_string (blk off cap:Nat) (ss:List (List UInt8)) (w:World) (hH:Holds encStr w blk off ss.toArray) (hblk:blk<w.heap.size) (hsz:ss.length<4611686018427387904) :
 Calls Tryz.prog 343 #[.slice (some ⟨blk,off,none⟩) ss.length cap] w fun e w' =>
  e = .returned (.tuple #[])/\∃ n os,w' = grow (putRow encStr (Sort.ahead w n) blk off (ss.mergeSort fun x y=>decide (x<=y)).toArray) os:=Any.slices_Sort_string Kx.lays190 blk off cap ss w hH hblk hsz
def Kx.lays105_ren:Go.Shelf.Ren:=⟨fun | 105=>195 | 212=>256 | 99=>257 | 165=>254 | 166=>130 | 170=>258 | 169=>134 | 263=>297 | 264=>298 | 206=>299 | 240=>191 | 241=>296 | 276=>253 | 277=>340 | n=>n,fun | 9=>9 | 3=>3 | 4=>4 | 20=>20 | 0=>0 | 46=>103 | 109=>333 | 5=>5 | 72=>239 | 76=>242 | 51=>321 | 146=>355 | 53=>43 | 148=>357 | 70=>237 | 37=>224 | 75=>241 | 127=>301 | 164=>331 | 80=>247 | n=>n,fun | n=>n⟩
theorem Kx.lays105:Go.Proofs.Lays.n105 Tryz.prog Kx.lays105_ren:={
 mixed:=by kernel_rfl
 f99:=Tryz.func257.trans (congrArg some (by kernel_rfl))
 f105:=Tryz.func195.trans (congrArg some (by kernel_rfl))
 f165:=Tryz.func254.trans (congrArg some (by kernel_rfl))
 f166:=Tryz.func130.trans (congrArg some (by kernel_rfl))
 f169:=Tryz.func134.trans (congrArg some (by kernel_rfl))
 f170:=Tryz.func258.trans (congrArg some (by kernel_rfl))
 f206:=Tryz.func299.trans (congrArg some (by kernel_rfl))
 f212:=Tryz.func256.trans (congrArg some (by kernel_rfl))
 f240:=Tryz.func191.trans (congrArg some (by kernel_rfl))
 f241:=Tryz.func296.trans (congrArg some (by kernel_rfl))
 f263:=Tryz.func297.trans (congrArg some (by kernel_rfl))
 f264:=Tryz.func298.trans (congrArg some (by kernel_rfl))
 f276:=Tryz.func253.trans (congrArg some (by kernel_rfl))
 f277:=Tryz.func340.trans (congrArg some (by kernel_rfl))
 t0:=Tryz.underlying0
 a0:=Tryz.isAgg0
 z0:=Tryz.sizeOf0
 v0:=Tryz.zeroValue0
 t3:=Tryz.underlying3
 a3:=Tryz.isAgg3
 z3:=Tryz.sizeOf3
 v3:=Tryz.zeroValue3
 t4:=Tryz.underlying4
 a4:=Tryz.isAgg4
 z4:=Tryz.sizeOf4
 v4:=Tryz.zeroValue4
 t5:=Tryz.underlying5
 a5:=Tryz.isAgg5
 z5:=Tryz.sizeOf5
 v5:=Tryz.zeroValue5
 t9:=Tryz.underlying9
 a9:=Tryz.isAgg9
 z9:=Tryz.sizeOf9
 v9:=Tryz.zeroValue9
 t20:=Tryz.underlying20
 a20:=Tryz.isAgg20
 z20:=Tryz.sizeOf20
 v20:=Tryz.zeroValue20
 t37:=Tryz.underlying224
 a37:=Tryz.isAgg224
 z37:=Tryz.sizeOf224
 v37:=Tryz.zeroValue224
 t46:=Tryz.underlying103
 a46:=Tryz.isAgg103
 z46:=Tryz.sizeOf103
 v46:=Tryz.zeroValue103
 t51:=Tryz.underlying321
 a51:=Tryz.isAgg321
 z51:=Tryz.sizeOf321
 v51:=Tryz.zeroValue321
 t53:=Tryz.underlying43
 a53:=Tryz.isAgg43
 z53:=Tryz.sizeOf43
 v53:=Tryz.zeroValue43
 t70:=Tryz.underlying237
 a70:=Tryz.isAgg237
 z70:=Tryz.sizeOf237
 v70:=Tryz.zeroValue237
 t72:=Tryz.underlying239
 a72:=Tryz.isAgg239
 z72:=Tryz.sizeOf239
 v72:=Tryz.zeroValue239
 t75:=Tryz.underlying241
 a75:=Tryz.isAgg241
 z75:=Tryz.sizeOf241
 v75:=Tryz.zeroValue241
 t76:=Tryz.underlying242
 a76:=Tryz.isAgg242
 z76:=Tryz.sizeOf242
 v76:=Tryz.zeroValue242
 t109:=Tryz.underlying333
 a109:=Tryz.isAgg333
 z109:=Tryz.sizeOf333
 v109:=Tryz.zeroValue333
 t127:=Tryz.underlying301
 a127:=Tryz.isAgg301
 z127:=Tryz.sizeOf301
 v127:=Tryz.zeroValue301
 t146:=Tryz.underlying355
 a146:=Tryz.isAgg355
 z146:=Tryz.sizeOf355
 v146:=Tryz.zeroValue355
 t148:=Tryz.underlying357
 a148:=Tryz.isAgg357
 z148:=Tryz.sizeOf357
 v148:=Tryz.zeroValue357
 t164:=Tryz.underlying331
 a164:=Tryz.isAgg331
 z164:=Tryz.sizeOf331
 v164:=Tryz.zeroValue331 }
theorem Kx.Builder_Extra_105:Builder.Extra Tryz.prog Kx.lays105_ren:={
 sizeBuilder:=by kernel_rfl
 liesBuilder:=by kernel_rfl
 t5:=Tryz.underlying5
 a5:=Tryz.isAgg5
 z5:=Tryz.sizeOf5
 v5:=Tryz.zeroValue5
 infoByte:=by kernel_rfl
 cellsByte:=by kernel_rfl
 sizeByte:=by kernel_rfl
 neB5:=by decide }
open Go.RowKit Go.Lib in
theorem Kx.strings_Repeat (s:ByteArray) (c:Nat) (w:World) (hc:c<=9223372036854775807) (hlen:s.size*c<=140737488355328) :
 Calls Tryz.prog 195 #[.string s,.int .i64 c] w fun e w'=>e = .returned (.string ⟨(Lib.repeatL s.data.toList c).toArray⟩)/\Below w.heap.size w w':=Any.strings_Repeat Kx.lays105 Kx.Builder_Extra_105 s c w hc hlen
def Kx.lays229_ren:Go.Shelf.Ren:=⟨fun | 229=>304 | n=>n,fun | 9=>9 | 40=>364 | 31=>28 | 152=>386 | 3=>3 | 0=>0 | 4=>4 | 21=>21 | 154=>388 | n=>n,fun | n=>n⟩
theorem Kx.lays229:Go.Proofs.Lays.n229 Tryz.prog Kx.lays229_ren:={
 mixed:=by kernel_rfl
 f229:=Tryz.func304.trans (congrArg some (by kernel_rfl))
 t0:=Tryz.underlying0
 a0:=Tryz.isAgg0
 z0:=Tryz.sizeOf0
 v0:=Tryz.zeroValue0
 t3:=Tryz.underlying3
 a3:=Tryz.isAgg3
 z3:=Tryz.sizeOf3
 v3:=Tryz.zeroValue3
 t4:=Tryz.underlying4
 a4:=Tryz.isAgg4
 z4:=Tryz.sizeOf4
 v4:=Tryz.zeroValue4
 t9:=Tryz.underlying9
 a9:=Tryz.isAgg9
 z9:=Tryz.sizeOf9
 v9:=Tryz.zeroValue9
 t21:=Tryz.underlying21
 a21:=Tryz.isAgg21
 z21:=Tryz.sizeOf21
 v21:=Tryz.zeroValue21
 t31:=Tryz.underlying28
 a31:=Tryz.isAgg28
 z31:=Tryz.sizeOf28
 v31:=Tryz.zeroValue28
 t40:=Tryz.underlying364
 a40:=Tryz.isAgg364
 z40:=Tryz.sizeOf364
 v40:=Tryz.zeroValue364
 t152:=Tryz.underlying386
 a152:=Tryz.isAgg386
 z152:=Tryz.sizeOf386
 v152:=Tryz.zeroValue386
 t154:=Tryz.underlying388
 a154:=Tryz.isAgg388
 z154:=Tryz.sizeOf388
 v154:=Tryz.zeroValue388 }
open Go.RowKit Go.Lib in
theorem Kx.strings_FieldsFunc_grows (g:Nat) (lb:Array Value) (eg:∀ args w,(callFunc g args).run Tryz.prog w = .ok (.enter g args) w) (p:Nat->Bool) (s:ByteArray) (w:World) (hs:s.size<=4294967296) (hp:PredGrows Tryz.prog g lb p w) :
 Calls Tryz.prog 304 #[.string s,.func (.func g) #[] lb] w fun e w'=>∃ A,e = .returned (.slice (some ⟨A,0,none⟩) (Lib.goFieldsP p s).length (Lib.goFieldsP p s).length)/\w.heap.size<=A /\
  w'.ownsRow w.heap.size 9 1 (.slice (some ⟨A,0,none⟩) (Lib.goFieldsP p s).length (Lib.goFieldsP p s).length) (Lib.goFieldsP p s).length ((Lib.goFieldsP p s).map Value.string)/\Below w.heap.size w w':=Any.strings_FieldsFunc_grows Kx.lays229 g lb eg p s w hs hp (by kernel_rfl) (by kernel_rfl)
open Go.RowKit Go.Sort in
theorem Kx.slices_Sort_string_none (p:Option Addr) (cap:Nat) (w:World) :
 Calls Tryz.prog 343 #[.slice p 0 cap] w fun e w'=>e = .returned (.tuple #[])/\w' = w:=Any.slices_Sort_string_none Kx.lays190 p cap w
end Go.Proofs
